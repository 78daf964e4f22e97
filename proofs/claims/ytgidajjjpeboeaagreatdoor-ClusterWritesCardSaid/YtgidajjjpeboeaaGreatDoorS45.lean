/-
  The texts that the claim wants, one behind the other: part 45.
-/
import Derived.Test.YtgidajjjpeboeaaGreatDoorS44
import Derived.Shelf.Strings.LastIndex
import Derived.Test.YtgidajjjpeboeaaGreatDoorChecked
import Derived.KernelRfl
set_option linter.unusedSimpArgs false
set_option linter.unusedVariables false
namespace Go.Proofs.YtgidajjjpeboeaaGreatDoor
open Go.RowKit Go.Maps Go.MapKept Go.ChangeMaps
set_option maxHeartbeats 20000000 in
theorem do_o (k : Nat) (hk : k ≤ 1000) (cl : Clu) (hJ : CluJ k cl) (cap0 sp0 : Nat) (hix : cluFI cl.fails (cap0, sp0)) (kd : Int) (i : OId) (hi : OkI i) (v : V) (hv : v.size ≤ 1000000) (hsb : v.sb) (n : Int) (hn : -9223372036854775808 ≤ n ∧ n ≤ 9223372036854775807) :
  MSX Tryz.prog 9 (cluO 2000000 2900001 2000001 cl (cap0, sp0) ++ [(2000002, qS 0 0 0 0)]) [.np 2000000 0, .np 2000002 0, .agg (opC kd i v n)] (doI (k + 1)) doS (fun x => .bool x.2.2) := by
 have hw := wrong_v i v hi hsb (by omega)
 have hK := keyI_of hi.1 hi.2.1 hi.2.2
 refine MSX.enter Tryz.func9 a_law16_DoD_ok a_law16_DoD_cb (by rfl) ?_ fun E hE => ?_
 ·unfold okInS
  show (true && (true && (((rowsJ cl.fails).flatten ++ List.replicate sp0 AV.top).all AV.okIn && true)) && true) = true
  rw [all_rowsJ (fun _ => rfl) rfl]
  rfl
 show AK _ _ _ [.c b_law16_DoD] _ _
 rw [b_law16_DoD]
 refine kW ?_
 refine kC (fun hb => ?_) fun hb => ?_
 ·refine kW ?_
  refine AK.weak (Weak.introN (L := [(0, .np 2000000 0), (1, .np 2000002 0), (5, .ptr 5 0)]) (BL := [(5, opC kd i v n, false), (2000000, [.np 2900001 0, .int .i64 cl.last, .sli 2000001 1 cl.fails.length cap0, .int .i64 cl.fuse, .bool cl.down, npC], false), (2900001, [mcA (rowsE cl.has)], false), (2000001, fC cl.fails sp0, false), (2000002, qS 0 0 0 0, false)]) ⟨kI, kI, kI, trivial⟩ ⟨kJ, kJ, kJ, kJ, kJ, trivial⟩ rfl rfl ⟨rfl, rfl, all_rowsJ (fun _ => rfl) rfl _ _, rfl, trivial⟩) ?_
  have hC : MSX Tryz.prog 12 (cluF 2000000 2900001 cl (.sli 2000001 1 cl.fails.length cap0) ++ [(2000001, (fC cl.fails sp0).map AV.told)]) [.np 2000000 0, .agg (idA i), (vA (v))] (fiOk (cl.create (wrongC i v) i v).2) (YY (cl.create (wrongC i v) i v).2) (fun _ => .int .i64 (cl.create (wrongC i v) i v).1) := by
   rw [told_rowsJ]
   exact create_o cl hJ.i (cap0, sp0) hix hK v hv _ hw
  have hQ := rCreate_m i v hi hsb (by omega)
  have hJ2 := hJ.create hk (wrongC i v) hi hv
  generalize (wrongC i v) = eq at hQ
  generalize hc' : (cl.create (wrongC i v) i v).2 = c' at *
  generalize (cl.create (wrongC i v) i v).1 = e at *
  refine AK.regaL fw0 [(true, 0), (true, 1), (true, 2), (true, 3), (true, 4), (true, 6), (true, 7), (true, 8), (true, 9), (true, 10), (false, 5), (false, 11), (false, 12), (false, 13)] [.v .top, .s [2000002] [] (.int .i64 eq)] (fun j => if j = 5 then some ⟨FI, fiOk c', YY c', fun _ => .int .i64 e, [2000000, 2900001, 2000001]⟩ else none) (fiOk c') (fun _ => frOf [(6, .bool (decide (e = eq)))]) (fun f => ⟨boxOf (YB c' f), fun _ => 0⟩) rfl (by kernel_rfl) ?_ ?_
  ·(repeat' (first | exact trivial | apply And.intro | rintro (_ | ⟨_ | _, cap, sp⟩) hf))
   all_goals first
    | (show _ = _; exact rfl)
    | (show MSX _ _ _ _ _ _ _; exact hC)
    | (show MS _ _ _ _ _ _; exact hQ)
    | (show (((true && (true && (true && ((fC c'.fails sp).all (AV.inS [2000000, 2900001, 2000001]) && true)))) && true) && true) = true; rw [all_rowsJ (fun _ => rfl) rfl]; rfl)
    | (show (((true && (true && (true && ((fC c'.fails sp).all (AV.inS [2000000, 2900001, 1000001]) && true)))) && true) && true) = true; rw [all_rowsJ (fun _ => rfl) rfl]; rfl)
    | exact ⟨none, hf, Weak.introN ⟨kI, trivial⟩ ⟨kJ, kJ, trivial⟩ rfl rfl ⟨rfl, rfl, trivial⟩⟩
    | exact ⟨some (false, cap, sp), hf, Weak.introN ⟨kI, trivial⟩ ⟨kJ, kJ, kJ, trivial⟩ rfl rfl ⟨rfl, rfl, all_rowsJ (fun _ => rfl) rfl _ _, trivial⟩⟩
    | exact ⟨some (true, cap, sp), hf, Weak.introN ⟨kI, trivial⟩ ⟨kJ, kJ, kJ, trivial⟩ rfl rfl ⟨rfl, rfl, all_rowsJ (fun _ => rfl) rfl _ _, trivial⟩⟩
  intro f hf
  exact AK.ret (ret_y hJ2 f hf _ rfl)
 clear hb
 refine kW ?_
 refine kC (fun hb => ?_) fun hb => ?_
 ·clear hb
  obtain ⟨n', hn'⟩ : ∃ n', n' = if n.tmod 2 = 0 then 0 else n := ⟨_, rfl⟩
  refine kW ?_
  refine kP [] ?_ ?_
  ·((repeat' apply And.intro) <;> first | exact kD | (intro hgd; refine ⟨?_, kG⟩; (repeat' apply And.intro) <;> first | exact kD | skip) | skip)
   all_goals omega
  refine AK.cut (frOf [(0, .np 2000000 0), (1, .np 2000002 0), (5, .ptr 5 0), (7, .int .i64 n')]) ⟨boxOf [(5, opC kd i v n, false), (2000000, [.np 2900001 0, .int .i64 cl.last, .sli 2000001 1 cl.fails.length cap0, .int .i64 cl.fuse, .bool cl.down, npC], false), (2900001, [mcA (rowsE cl.has)], false), (2000001, fC cl.fails sp0, false), (2000002, qS 0 0 0 0, false)], fun _ => 0⟩ ?_ ?_
  ·refine kC (fun hb => ?_) fun hb => ?_
   ·have hq : n.tmod 2 = 0 := by simpa using hb
    rw [if_pos hq] at hn'
    subst hn'
    have hCo := rCopy3_m
    have hG := rGetA3_m i
    clear hb
    refine kW ?_
    refine AK.weak (Weak.introN (L := [(0, .np 2000000 0), (1, .np 2000002 0), (5, .ptr 5 0)]) (BL := [(5, opC kd i v n, false), (2000000, [.np 2900001 0, .int .i64 cl.last, .sli 2000001 1 cl.fails.length cap0, .int .i64 cl.fuse, .bool cl.down, npC], false), (2900001, [mcA (rowsE cl.has)], false), (2000001, fC cl.fails sp0, false), (2000002, qS 0 0 0 0, false)]) ⟨kI, kI, kI, trivial⟩ ⟨kJ, kJ, kJ, kJ, kJ, trivial⟩ rfl rfl ⟨rfl, rfl, all_rowsJ (fun _ => rfl) rfl _ _, rfl, trivial⟩) ?_
    refine AK.regaL fw0 [(true, 0), (true, 2), (true, 3), (false, 1), (false, 4), (false, 5), (false, 6), (false, 7), (false, 8), (false, 9)] [.s [2000002] [(2000002, qS 0 0 0 0), (1000003, qA 0 0 0 0)] (.np 1000003 0), .s [1000003] [] (.tup [(vA (V.null)), .int .i64 0, .int .i64 3])] (fun _ => none) (fun _ : Unit => True) (fun _ => frOf [(0, .np 2000000 0), (1, .np 2000002 0), (5, .ptr 5 0), (7, .int .i64 0)]) (fun _ => ⟨boxOf [(5, opC kd i v n, false), (2000000, [.np 2900001 0, .int .i64 cl.last, .sli 2000001 1 cl.fails.length cap0, .int .i64 cl.fuse, .bool cl.down, npC], false), (2900001, [mcA (rowsE cl.has)], false), (2000001, fC cl.fails sp0, false), (2000002, qS 0 0 0 0, false)], fun _ => 0⟩) rfl (by kernel_rfl) ?_ fun _ _ => ?_
    ·(repeat' (first | exact trivial | apply And.intro))
     all_goals first
      | (show _ = _; exact rfl)
      | (show MS _ _ _ _ _ _; exact hCo)
      | (show MS _ _ _ _ _ _; exact hG)
      | (show (((true && (true && (true && ((fC _ sp0).all (AV.inS [2000000, 2900001, 2000001]) && true)))) && true) && true) = true; rw [all_rowsJ (fun _ => rfl) rfl]; rfl)
      | exact ⟨(), trivial, Weak.introN ⟨kI, kI, kI, kI, trivial⟩ ⟨kJ, kJ, kJ, kJ, kJ, trivial⟩ rfl rfl ⟨rfl, rfl, all_rowsJ (fun _ => rfl) rfl _ _, rfl, trivial⟩⟩
      | exact ⟨(), trivial, Weak.introN ⟨kI, kI, kI, kI, trivial⟩ ⟨kJ, kJ, kJ, ⟨_, rfl, leL_of_eq (clr_rowsJ _ _ _)⟩, kJ, trivial⟩ rfl rfl ⟨rfl, rfl, all_rowsJ (fun _ => rfl) rfl _ _, rfl, trivial⟩⟩
    exact AK.cutEnd (Weak.introN ⟨kI, kI, kI, kI, trivial⟩ ⟨kJ, kJ, kJ, kJ, kJ, trivial⟩ rfl rfl ⟨rfl, rfl, all_rowsJ (fun _ => rfl) rfl _ _, rfl, trivial⟩)
   ·have hq : ¬ n.tmod 2 = 0 := by simpa using hb
    rw [if_neg hq] at hn'
    subst hn'
    refine kW ?_
    exact AK.cutEnd (Weak.introN ⟨kI, kI, kI, kI, trivial⟩ ⟨kJ, kJ, kJ, kJ, kJ, trivial⟩ rfl rfl ⟨rfl, rfl, all_rowsJ (fun _ => rfl) rfl _ _, rfl, trivial⟩)
  clear hn'
  refine kW ?_
  have hC : MSX Tryz.prog 13 (cluF 2000000 2900001 cl (.sli 2000001 1 cl.fails.length cap0) ++ [(2000001, (fC cl.fails sp0).map AV.told)]) [.np 2000000 0, .agg (idA i), .int .i64 n', (vA (v))] (fiOk (cl.patch (wrongC i v) i n' v).2) (YY (cl.patch (wrongC i v) i n' v).2) (fun _ => .int .i64 (cl.patch (wrongC i v) i n' v).1) := by
   rw [told_rowsJ]
   exact patch_o cl hJ.i (cap0, sp0) hix hK n' v hv _ hw
  have hQ := rPatch_m i n' v hi hsb (by omega)
  have hJ2 := hJ.patch hk (wrongC i v) n' hi hv
  generalize (if wrongC i v ≠ 0 then wrongC i v else 3) = eq at hQ
  generalize hc' : (cl.patch (wrongC i v) i n' v).2 = c' at *
  generalize (cl.patch (wrongC i v) i n' v).1 = e at *
  refine AK.regaL fw0 [(true, 0), (true, 1), (true, 2), (true, 3), (true, 4), (true, 5), (true, 7), (true, 8), (true, 9), (true, 10), (true, 11), (true, 12), (false, 6), (false, 13), (false, 14), (false, 15)] [.v .top, .s [2000002] [] (.int .i64 eq)] (fun j => if j = 6 then some ⟨FI, fiOk c', YY c', fun _ => .int .i64 e, [2000000, 2900001, 2000001]⟩ else none) (fiOk c') (fun _ => frOf [(6, .bool (decide (e = eq)))]) (fun f => ⟨boxOf (YB c' f), fun _ => 0⟩) rfl (by kernel_rfl) ?_ ?_
  ·(repeat' (first | exact trivial | apply And.intro | rintro (_ | ⟨_ | _, cap, sp⟩) hf))
   all_goals first
    | (show _ = _; exact rfl)
    | (show MSX _ _ _ _ _ _ _; exact hC)
    | (show MS _ _ _ _ _ _; exact hQ)
    | (show (((true && (true && (true && ((fC c'.fails sp).all (AV.inS [2000000, 2900001, 2000001]) && true)))) && true) && true) = true; rw [all_rowsJ (fun _ => rfl) rfl]; rfl)
    | (show (((true && (true && (true && ((fC c'.fails sp).all (AV.inS [2000000, 2900001, 1000001]) && true)))) && true) && true) = true; rw [all_rowsJ (fun _ => rfl) rfl]; rfl)
    | exact ⟨none, hf, Weak.introN ⟨kI, trivial⟩ ⟨kJ, kJ, trivial⟩ rfl rfl ⟨rfl, rfl, trivial⟩⟩
    | exact ⟨some (false, cap, sp), hf, Weak.introN ⟨kI, trivial⟩ ⟨kJ, kJ, kJ, trivial⟩ rfl rfl ⟨rfl, rfl, all_rowsJ (fun _ => rfl) rfl _ _, trivial⟩⟩
    | exact ⟨some (true, cap, sp), hf, Weak.introN ⟨kI, trivial⟩ ⟨kJ, kJ, kJ, trivial⟩ rfl rfl ⟨rfl, rfl, all_rowsJ (fun _ => rfl) rfl _ _, trivial⟩⟩
  intro f hf
  exact AK.ret (ret_y hJ2 f hf _ rfl)
 clear hb
 refine kW ?_
 refine kC (fun hb => ?_) fun hb => ?_
 ·refine kW ?_
  refine AK.weak (Weak.introN (L := [(0, .np 2000000 0), (1, .np 2000002 0), (5, .ptr 5 0)]) (BL := [(5, opC kd i v n, false), (2000000, [.np 2900001 0, .int .i64 cl.last, .sli 2000001 1 cl.fails.length cap0, .int .i64 cl.fuse, .bool cl.down, npC], false), (2900001, [mcA (rowsE cl.has)], false), (2000001, fC cl.fails sp0, false), (2000002, qS 0 0 0 0, false)]) ⟨kI, kI, kI, trivial⟩ ⟨kJ, kJ, kJ, kJ, kJ, trivial⟩ rfl rfl ⟨rfl, rfl, all_rowsJ (fun _ => rfl) rfl _ _, rfl, trivial⟩) ?_
  have hC : MSX Tryz.prog 14 (cluF 2000000 2900001 cl (.sli 2000001 1 cl.fails.length cap0) ++ [(2000001, (fC cl.fails sp0).map AV.told)]) [.np 2000000 0, .agg (idA i)] (fiOk (cl.delete i).2) (YY (cl.delete i).2) (fun _ => .int .i64 (cl.delete i).1) := by
   rw [told_rowsJ]
   exact delete_o cl hJ.i (cap0, sp0) hix hK
  have hQ := rDelete_m i
  have hJ2 := hJ.delete i
  generalize hc' : (cl.delete i).2 = c' at *
  generalize (cl.delete i).1 = e at *
  refine AK.regaL fw0 [(true, 0), (true, 1), (true, 2), (true, 4), (true, 5), (true, 6), (false, 3), (false, 7), (false, 8), (false, 9)] [.v .top, .s [2000002] [] (.int .i64 3)] (fun j => if j = 3 then some ⟨FI, fiOk c', YY c', fun _ => .int .i64 e, [2000000, 2900001, 2000001]⟩ else none) (fiOk c') (fun _ => frOf [(6, .bool (decide (e = 3)))]) (fun f => ⟨boxOf (YB c' f), fun _ => 0⟩) rfl (by kernel_rfl) ?_ ?_
  ·(repeat' (first | exact trivial | apply And.intro | rintro (_ | ⟨_ | _, cap, sp⟩) hf))
   all_goals first
    | (show _ = _; exact rfl)
    | (show MSX _ _ _ _ _ _ _; exact hC)
    | (show MS _ _ _ _ _ _; exact hQ)
    | (show (((true && (true && (true && ((fC c'.fails sp).all (AV.inS [2000000, 2900001, 2000001]) && true)))) && true) && true) = true; rw [all_rowsJ (fun _ => rfl) rfl]; rfl)
    | (show (((true && (true && (true && ((fC c'.fails sp).all (AV.inS [2000000, 2900001, 1000001]) && true)))) && true) && true) = true; rw [all_rowsJ (fun _ => rfl) rfl]; rfl)
    | exact ⟨none, hf, Weak.introN ⟨kI, trivial⟩ ⟨kJ, kJ, trivial⟩ rfl rfl ⟨rfl, rfl, trivial⟩⟩
    | exact ⟨some (false, cap, sp), hf, Weak.introN ⟨kI, trivial⟩ ⟨kJ, kJ, kJ, trivial⟩ rfl rfl ⟨rfl, rfl, all_rowsJ (fun _ => rfl) rfl _ _, trivial⟩⟩
    | exact ⟨some (true, cap, sp), hf, Weak.introN ⟨kI, trivial⟩ ⟨kJ, kJ, kJ, trivial⟩ rfl rfl ⟨rfl, rfl, all_rowsJ (fun _ => rfl) rfl _ _, trivial⟩⟩
  intro f hf
  exact AK.ret (ret_y hJ2 f hf _ rfl)
 clear hb
 refine kW ?_
 refine kC (fun hb => ?_) fun hb => ?_
 ·refine kW ?_
  refine AK.weak (Weak.introN (L := [(0, .np 2000000 0), (1, .np 2000002 0), (5, .ptr 5 0)]) (BL := [(5, opC kd i v n, false), (2000000, [.np 2900001 0, .int .i64 cl.last, .sli 2000001 1 cl.fails.length cap0, .int .i64 cl.fuse, .bool cl.down, npC], false), (2900001, [mcA (rowsE cl.has)], false), (2000001, fC cl.fails sp0, false), (2000002, qS 0 0 0 0, false)]) ⟨kI, kI, kI, trivial⟩ ⟨kJ, kJ, kJ, kJ, kJ, trivial⟩ rfl rfl ⟨rfl, rfl, all_rowsJ (fun _ => rfl) rfl _ _, rfl, trivial⟩) ?_
  have hE0 : MS Tryz.prog 18 (cluO 2000000 2900001 2000001 cl (cap0, sp0)) [.np 2000000 0, .agg (idA i), (vA (v))] (cluO 2000000 2900001 2000001 (cl.edit (wrongC i v) i v).2 (cap0, sp0)) (.int .i64 (cl.edit (wrongC i v) i v).1) := by
   unfold cluO
   rw [edit_f cl]
   exact MS.hide (q := 2000001) (n := cl.fails.length) (cap := cap0) (cells := fC cl.fails sp0) (by decide) (by decide) rfl (fC_no _ _) fun u hu => edit_r u hu cl hJ.i.k hK v hv _ hw
  have hE : MS Tryz.prog 18 (cluF 2000000 2900001 cl (.sli 2000001 1 cl.fails.length cap0) ++ [(2000001, (fC cl.fails sp0).map AV.told)]) [.np 2000000 0, .agg (idA i), (vA (v))] (cluO 2000000 2900001 2000001 (cl.edit (wrongC i v) i v).2 (cap0, sp0)) (.int .i64 (cl.edit (wrongC i v) i v).1) := by
   rw [told_rowsJ]
   exact hE0
  have hQ := rEdit_m i v hi hsb (by omega)
  have hJ2 := hJ.edit hk (wrongC i v) hi hv
  have hz := edit_f cl (wrongC i v) i v
  generalize hc' : (cl.edit (wrongC i v) i v).2 = c' at *
  generalize (cl.edit (wrongC i v) i v).1 = e at *
  refine AK.regaL fw0 [(true, 0), (true, 1), (true, 2), (true, 3), (true, 4), (true, 6), (true, 7), (true, 8), (true, 9), (true, 10), (false, 5), (false, 11), (false, 12), (false, 13)] [.s [2000000, 2900001, 2000001] (cluO 2000000 2900001 2000001 c' (cap0, sp0)) (.int .i64 e), .s [2000002] [] (.int .i64 (wrongC i v))] (fun _ => none) (fun _ : Unit => True) (fun _ => frOf [(6, .bool (decide (e = wrongC i v)))]) (fun _ => ⟨boxOf (YB c' (some (false, cap0, sp0))), fun _ => 0⟩) rfl (by kernel_rfl) ?_ fun _ _ => ?_
  ·(repeat' (first | exact trivial | apply And.intro))
   all_goals first
    | (show _ = _; exact rfl)
    | (show MS _ _ _ _ _ _; exact hE)
    | (show MS _ _ _ _ _ _; exact hQ)
    | (show (((true && (true && (true && ((fC _ sp0).all (AV.inS [2000000, 2900001, 2000001]) && true)))) && true) && true) = true; rw [all_rowsJ (fun _ => rfl) rfl]; rfl)
    | exact ⟨(), trivial, Weak.introN ⟨kI, trivial⟩ ⟨kJ, kJ, kJ, trivial⟩ rfl rfl ⟨rfl, rfl, all_rowsJ (fun _ => rfl) rfl _ _, trivial⟩⟩
    | exact ⟨(), trivial, Weak.introN ⟨kI, trivial⟩ ⟨kJ, kJ, kJ, ⟨_, rfl, leL_of_eq (clr_rowsJ _ _ _)⟩, kJ, trivial⟩ rfl rfl ⟨rfl, rfl, all_rowsJ (fun _ => rfl) rfl _ _, trivial⟩⟩
  exact AK.ret (ret_y hJ2 (some (false, cap0, sp0)) (by show cluFI _ _; rw [hz]; exact hix) _ rfl)
 clear hb
 refine kW ?_
 refine kC (fun hb => ?_) fun hb => ?_
 ·have hG : MS Tryz.prog 28 (cluF 2000000 2900001 cl (.sli 2000001 1 cl.fails.length cap0) ++ [(2000001, (fC cl.fails sp0).map AV.told)]) [.np 2000000 0, .agg (idA i)] (cluO 2000000 2900001 2000001 cl (cap0, sp0)) (.tup [(vA ((cl.get i).1)), .int .i64 (cl.get i).2.1, .int .i64 (cl.get i).2.2]) := by
   rw [told_rowsJ]
   exact MS.hide (q := 2000001) (n := cl.fails.length) (cap := cap0) (cells := fC cl.fails sp0) (by decide) (by decide) rfl (fC_no _ _) fun u hu => get_r u hu cl hJ.i.k hK
  have hQ := rGet_m 0 0 0 0 i
  have hgz := get_size cl hJ.i.ok i
  generalize cl.get i = g at *
  obtain ⟨g1, g2, g3⟩ := g
  dsimp only at hG hgz
  have hS := refSame_a g1.size g1 V.null (Nat.le_refl _) (by omega)
  refine kW ?_
  refine kP [.s [2000000, 2900001, 2000001] (cluO 2000000 2900001 2000001 cl (cap0, sp0)) (.tup [(vA (g1)), .int .i64 g2, .int .i64 g3])] ?_ ?_
  ·((repeat' apply And.intro) <;> first | exact kD | (intro hgd; refine ⟨?_, kG⟩; (repeat' apply And.intro) <;> first | exact kD | skip) | skip)
   ·show (((true && (true && (true && ((fC cl.fails sp0).all (AV.inS [2000000, 2900001, 2000001]) && true)))) && true) && _) = true
    rw [all_rowsJ (fun _ => rfl) rfl]
    rfl
  refine kW ?_
  refine kQ [.s [2000002] [] (.tup [(vA (V.null)), .int .i64 0, .int .i64 3])] ?_
  refine kW ?_
  refine kQ [.v (.bool (g1.sameB V.null))] ?_
  refine kW ?_
  exact AK.ret ⟨(cl, some (false, cap0, sp0), _), ⟨hJ.more (by omega), hix⟩, ⟨_, rfl, rfl⟩, ⟨_, rfl, rfl⟩, ⟨_, rfl, rfl⟩, ⟨_, rfl, told_rowsJ _ _⟩, trivial⟩
 clear hb
 refine kW ?_
 refine kC (fun hb => ?_) fun hb => ?_
 ·have hF := fail_o cl hJ.i.fails.2 (cap0, sp0) hix n
  have hJ2 := hJ.fail hk hn
  refine kW ?_
  refine AK.regs ?_
  refine SK.run 4 [] ?_ ?_
  ·((repeat' apply And.intro) <;> first | exact kD | (intro hgd; refine ⟨?_, kG⟩; (repeat' apply And.intro) <;> first | exact kD | skip) | skip)
  refine SK.callX (cluFI (cl.fails ++ [n])) (fun j => cluO 2000000 2900001 1000001 { cl with fails := cl.fails ++ [n] } j) (fun _ => .tup []) [2000000, 2900001, 2000001] (S := cluF 2000000 2900001 cl (.sli 2000001 1 cl.fails.length cap0) ++ [(2000001, (fC cl.fails sp0).map AV.told)]) (by rw [told_rowsJ]; exact hF) (fun j hj => ?_) fun ⟨cap, sp⟩ hj => ?_
  ·show (((true && (true && (true && ((fC (cl.fails ++ [n]) j.2).all (AV.inS [2000000, 2900001, 1000001]) && true)))) && true) && true) = true
   rw [all_rowsJ (fun _ => rfl) rfl]
   rfl
  refine SK.nil ?_
  refine kW ?_
  refine kP [] ?_ ?_
  ·((repeat' apply And.intro) <;> first | exact kD | (intro hgd; refine ⟨?_, kG⟩; (repeat' apply And.intro) <;> first | exact kD | skip) | skip)
   all_goals exact Nat.le_of_ble_eq_true rfl
  refine kW ?_
  exact AK.ret ⟨({ cl with fails := cl.fails ++ [n] }, some (true, cap, sp), _), ⟨hJ2, hj⟩, ⟨_, rfl, rfl⟩, ⟨_, rfl, rfl⟩, ⟨_, rfl, rfl⟩, ⟨_, rfl, told_rowsJ _ _⟩, trivial⟩
 clear hb
 refine kW ?_
 refine kC (fun hb => ?_) fun hb => ?_
 ·have hF : MS Tryz.prog 25 (cluF 2000000 2900001 cl (.sli 2000001 1 cl.fails.length cap0) ++ [(2000001, (fC cl.fails sp0).map AV.told)]) [.np 2000000 0, .int .i64 n] (cluO 2000000 2900001 2000001 { cl with fuse := n } (cap0, sp0)) (.tup []) := by
   rw [told_rowsJ]
   exact MS.hide (q := 2000001) (n := cl.fails.length) (cap := cap0) (cells := fC cl.fails sp0) (by decide) (by decide) rfl (fC_no _ _) fun u hu => fuse_r u hu cl n
  refine kW ?_
  refine kP [.s [2000000, 2900001, 2000001] (cluO 2000000 2900001 2000001 { cl with fuse := n } (cap0, sp0)) (.tup [])] ?_ ?_
  ·((repeat' apply And.intro) <;> first | exact kD | (intro hgd; refine ⟨?_, kG⟩; (repeat' apply And.intro) <;> first | exact kD | skip) | skip)
   ·show (((true && (true && (true && ((fC cl.fails sp0).all (AV.inS [2000000, 2900001, 2000001]) && true)))) && true) && true) = true
    rw [all_rowsJ (fun _ => rfl) rfl]
    rfl
  refine kW ?_
  exact AK.ret ⟨({ cl with fuse := n }, some (false, cap0, sp0), _), ⟨(hJ.fuse hn).more (by omega), hix⟩, ⟨_, rfl, rfl⟩, ⟨_, rfl, rfl⟩, ⟨_, rfl, rfl⟩, ⟨_, rfl, told_rowsJ _ _⟩, trivial⟩
 clear hb
 refine kW ?_
 refine kC (fun hb => ?_) fun hb => ?_
 ·have hF : MS Tryz.prog 37 (cluF 2000000 2900001 cl (.sli 2000001 1 cl.fails.length cap0) ++ [(2000001, (fC cl.fails sp0).map AV.told)]) [.np 2000000 0] (cluN 2000000 2900001 { cl with down := false, fuse := -1, fails := [] }) (.tup []) := by
   rw [told_rowsJ]
   exact restart_o cl (cap0, sp0)
  refine kW ?_
  refine kQ [.s [2000000, 2900001, 2000001] (cluN 2000000 2900001 { cl with down := false, fuse := -1, fails := [] }) (.tup [])] ?_
  refine kW ?_
  exact AK.ret ⟨({ cl with down := false, fuse := -1, fails := [] }, none, _), ⟨hJ.restart.more (by omega), rfl⟩, ⟨_, rfl, rfl⟩, ⟨_, rfl, rfl⟩, ⟨_, rfl, rfl⟩, trivial⟩
 clear hb
 refine kW ?_
 exact AK.ret ⟨(cl, some (false, cap0, sp0), _), ⟨hJ.more (by omega), hix⟩, ⟨_, rfl, rfl⟩, ⟨_, rfl, rfl⟩, ⟨_, rfl, rfl⟩, ⟨_, rfl, told_rowsJ _ _⟩, trivial⟩
end Go.Proofs.YtgidajjjpeboeaaGreatDoor
namespace Go.Proofs.YtgidajjjpeboeaaGreatDoor
open Go.RowKit
theorem heldID : Tryz.prog.stoodInHeld 24 = false := by kernel_rfl
theorem guardID : Tryz.prog.eqGuardType Tryz.prog.depth 24 = false := by kernel_rfl
theorem tl_iff (a b : ByteArray) : a.toList = b.toList ↔ a = b := ⟨LastIndex.eq_of_toList, fun h => by rw [h]⟩
theorem eqID_any (neg : Bool) (a b c d e f : ByteArray) : EqRun Tryz.prog neg 24 [.string a, .string b, .string c] [.string d, .string e, .string f] (eqCells [.str a, .str b, .str c] [.str d, .str e, .str f]) := by
 intro w x y
 cases neg
 ·constructor
  ·simp [go_sem, eqGuard, eqOp, guardID]
  ·simp [go_sem, eqOp, heldID, eqCells, tl_iff]
   by_cases h1 : a = d <;> by_cases h2 : b = e <;> by_cases h3 : c = f <;> simp [h1, h2, h3]
 ·constructor
  ·simp [go_sem, eqGuard, eqOp, guardID]
  ·simp [go_sem, eqOp, heldID, eqCells, tl_iff]
   by_cases h1 : a = d <;> by_cases h2 : b = e <;> by_cases h3 : c = f <;> simp [h1, h2, h3]
theorem eqCells_same3 (a b c : ByteArray) : eqCells [.str a, .str b, .str c] [.str a, .str b, .str c] = true := by simp [eqCells]
theorem same12_refl (l : List Ob) (hl : l.length ≤ 1000000) (hz : ∀ o ∈ l, o.v.size ≤ 1000000) : AC Tryz.prog 15 [.lst .any 9 (rowsO l), .lst .any 9 (rowsO l)] (.bool true) := by
 refine kE Tryz.func15 a_ref12_Same_ok a_ref12_Same_cb fun E hE => ?_
 refine kW ?_
 refine kC (fun hb => ?_) fun hb => ?_
 ·simp at hb
 refine kW ?_
 refine AK.loopI (fun k : Nat => (frOf [(0, .lst .any 9 (rowsO l)), (1, .lst .any 9 (rowsO l)), (5, .int .i64 k)], ⟨boxOf [], fun _ => 0⟩)) (fun k => k ≤ l.length) (fun k => l.length - k) 0 (Nat.zero_le _) (Weak.intro ⟨kI, kI, kI, trivial⟩ trivial rfl rfl) fun k hk => ?_
 refine kW ?_
 refine kC (fun hb => ?_) fun hb => ?_
 ·have hlt : k < l.length := by simpa [rowsO_len] using hb
  obtain ⟨o, hg⟩ : ∃ x, l[k]? = some x := ⟨_, List.getElem?_eq_getElem hlt⟩
  have z1 := hz o (List.mem_of_getElem? hg)
  have hS := refSame_a o.v.size o.v o.v (Nat.le_refl _) (by omega)
  rw [show o.v.sameB o.v = true from V.sameB_true.2 rfl] at hS
  have hq := eqID_any true o.k o.s o.n o.k o.s o.n
  have hc : eqCells [.str o.k, .str o.s, .str o.n] [.str o.k, .str o.s, .str o.n] = true := eqCells_same3 _ _ _
  refine kW ?_
  refine kP [.c (obC o), .c (obC o), .c (obC o), .c (obC o), .v (.bool true)] ?_ ?_
  ·((repeat' apply And.intro) <;> first | exact kD | (intro hgd; refine ⟨?_, kG⟩; (repeat' apply And.intro) <;> first | exact kD | skip) | skip)
   all_goals first | exact rowsO_at hg | exact hq | exact hS | skip
   all_goals exact fun _ => ⟨rowsO_at hg, trivial⟩
  rw [hc]
  refine kC (fun hb => ?_) fun hb => ?_
  ·simp at hb
  ·refine kW ?_
   exact AK.lp ⟨k + 1, by omega, Weak.intro ⟨kI, kI, kU, trivial⟩ trivial rfl rfl, by omega⟩
 ·have hlt : k = l.length := by have : l.length ≤ k := by simpa [rowsO_len] using hb
                                omega
  subst hlt
  refine AK.exit rfl ?_
  refine kW ?_
  refine AK.ret ⟨_, rfl, ?_⟩
  rfl
end Go.Proofs.YtgidajjjpeboeaaGreatDoor
namespace Go.Proofs.YtgidajjjpeboeaaGreatDoor
set_option maxRecDepth 100000
def b_law16_ClusterWritesD : ACode :=
 .seq (gQ [gP 3 1, ⟨gO, .mov 4 (.k (.bool false))⟩]) (.seq (.seq (gQ [gM 17 0, gH 18 false 17, gU 19 .gtr 18 60, gM 20 19, ⟨some (20, false), .off 21 4 (.s 3)⟩, ⟨some (20, false), .ld 22 6 true (.s 21)⟩, ⟨some (20, false), .call (some 23) (.k (.fn 6 [])) [.s 22]⟩, ⟨some (20, false), .un 24 .not (.s 23)⟩, ⟨gO, .pick 25 (.s 20) (.k (.bool true)) (.s 24)⟩]) (.cond (.s 25) (.seq (gQ [gC 26 7 [], gM 4 26]) .ret) .skip)) (.seq (gQ [⟨gO, .calls (some 27) (.k (.fn 8 [])) [.k (.raw (Value.pointer none))]⟩, gM 5 27]) (.seq (.seq (gQ [gM 28 0, gH 29 false 28, gJ 30 0]) (.block 0 (.loop (.seq (gQ [gV 31 .lss 30 29]) (.seq (.cond (.s 31) .skip (.exit 0)) (.seq (.block 1 (.seq (gQ [gE 32 11 28 30, gA 33 11 32, ⟨gO, .alloc 7 [.int .i64 0, .str ⟨#[]⟩, .str ⟨#[]⟩, .str ⟨#[]⟩, .int .i64 0, .bool false, .int .i64 0, .str ⟨#[]⟩, .lst .nil 6 [], .lst .nil 7 [], .int .i64 0]⟩, gT 11 7 33]) (.seq (.seq (gQ [gF 34 4 7, gA 35 6 34, gC 36 6 [.s 35], ⟨gO, .un 37 .not (.s 36)⟩]) (.cond (.s 37) (.seq (gQ [gC 38 7 [], gM 4 38]) .ret) .skip)) (.rega [gM 39 5, ⟨gO, .calls (some 40) (.k (.fn 10 [])) []⟩, gA 41 11 7, ⟨gO, .calls (some 42) (.k (.fn 9 [])) [.s 39, .s 40, .s 41]⟩] [[], [], [], [0, 1, 2, 1]])))) (.reg [gU 43 .add 30 1, gM 30 43]))))))) (.seq (gQ [gM 44 5, ⟨gO, .calls (some 45) (.k (.fn 11 [])) [.s 44]⟩, gM 8 45]) (.seq (gQ [gJ 9 0]) (.seq (.seq (gQ [gF 46 0 3, gL 47 46]) (.block 2 (.seq (gQ [gU 53 .eql 47 0, gM 52 53]) (.cond (.s 52) (.regs [gM 54 5, gF 55 1 3, gA 56 3 55, gF 57 4 3, gA 58 6 57, ⟨gO, .calls (some 59) (.k (.fn 12 [])) [.s 54, .s 56, .s 58]⟩, gM 9 59]) (.seq (gQ [gU 61 .eql 47 1, gM 60 61]) (.cond (.s 60) (.regs [gM 62 5, gF 63 1 3, gA 64 3 63, gF 65 10 3, gL 66 65, gF 67 4 3, gA 68 6 67, ⟨gO, .calls (some 69) (.k (.fn 13 [])) [.s 62, .s 64, .s 66, .s 68]⟩, gM 9 69]) (.regs [gM 48 5, gF 49 1 3, gA 50 3 49, ⟨gO, .calls (some 51) (.k (.fn 14 [])) [.s 48, .s 50]⟩, gM 9 51]))))))) (.seq (gQ [gM 70 5, ⟨gO, .calls (some 71) (.k (.fn 11 [])) [.s 70]⟩, gM 10 71]) (.seq (.seq (gQ [gM 72 9, gU 73 .neq 72 0]) (.cond (.s 73) (.seq (gQ [gC 74 7 [], gM 75 74, gN 75 true 76 8, gN 75 true 77 10, ⟨some (75, true), .call (some 78) (.k (.fn 15 [])) [.s 76, .s 77]⟩, ⟨gO, .pick 79 (.s 75) (.s 78) (.k (.bool false))⟩, gM 4 79]) .ret) .skip)) (.seq (gQ [⟨gO, .mov 11 (.k (.lst .nil 9 []))⟩, ⟨gO, .mov 12 (.k (.lst .nil 9 []))⟩]) (.seq (.seq (gQ [gM 80 8, gH 81 false 80, gJ 82 0]) (.block 3 (.loop (.seq (gQ [gV 83 .lss 82 81]) (.seq (.cond (.s 83) .skip (.exit 3)) (.seq (.block 4 (.seq (gQ [gE 84 9 80 82, gA 85 9 84, ⟨gO, .alloc 14 [.str ⟨#[]⟩, .str ⟨#[]⟩, .str ⟨#[]⟩, .int .i64 0, .bool false, .int .i64 0, .str ⟨#[]⟩, .lst .nil 6 [], .lst .nil 7 []]⟩, gT 9 14 85]) (.seq (gQ [gF 86 0 14, gA 87 3 86, gF 88 1 3, gA 89 3 88, ⟨gO, .eqs 90 true 24 (.s 87) (.s 89)⟩]) (.cond (.s 90) (.reg [gM 91 11, gA 92 9 14, ⟨gO, .bsl 93 1 9 [.str ⟨#[]⟩, .str ⟨#[]⟩, .str ⟨#[]⟩, .int .i64 0, .bool false, .int .i64 0, .str ⟨#[]⟩, .lst .nil 6 [], .lst .nil 7 []] [(0, 9, .s 92)]⟩, ⟨gO, .app 94 9 136 (.s 91) (.s 93)⟩, gM 11 94]) .skip)))) (.reg [gU 95 .add 82 1, gM 82 95]))))))) (.seq (.seq (gQ [gM 96 10, gH 97 false 96, gJ 98 0]) (.block 5 (.loop (.seq (gQ [gV 99 .lss 98 97]) (.seq (.cond (.s 99) .skip (.exit 5)) (.seq (.block 6 (.seq (gQ [gE 100 9 96 98, gA 101 9 100, ⟨gO, .alloc 16 [.str ⟨#[]⟩, .str ⟨#[]⟩, .str ⟨#[]⟩, .int .i64 0, .bool false, .int .i64 0, .str ⟨#[]⟩, .lst .nil 6 [], .lst .nil 7 []]⟩, gT 9 16 101]) (.seq (gQ [gF 102 0 16, gA 103 3 102, gF 104 1 3, gA 105 3 104, ⟨gO, .eqs 106 true 24 (.s 103) (.s 105)⟩]) (.cond (.s 106) (.reg [gM 107 12, gA 108 9 16, ⟨gO, .bsl 109 1 9 [.str ⟨#[]⟩, .str ⟨#[]⟩, .str ⟨#[]⟩, .int .i64 0, .bool false, .int .i64 0, .str ⟨#[]⟩, .lst .nil 6 [], .lst .nil 7 []] [(0, 9, .s 108)]⟩, ⟨gO, .app 110 9 136 (.s 107) (.s 109)⟩, gM 12 110]) .skip)))) (.reg [gU 111 .add 98 1, gM 98 111]))))))) (.seq (gQ [gC 112 7 [], gM 113 112, gN 113 true 114 11, gN 113 true 115 12, ⟨some (113, true), .call (some 116) (.k (.fn 15 [])) [.s 114, .s 115]⟩, ⟨gO, .pick 117 (.s 113) (.s 116) (.k (.bool false))⟩, gM 4 117]) .ret))))))))))))
def a_law16_ClusterWritesD : AFn := ⟨2, 118, b_law16_ClusterWritesD, [.tmp 4]⟩
theorem a_law16_ClusterWritesD_ok : fnAF Tryz.prog [2000036, 2000025, 2000037, 2000050, 2000028, 2000012, 2000013, 2000014, 2000018, 2000011, 2000008, 2000030, 2000031, 2000029, 2000032, 2000033, 2000034, 2000010, 2000009, 5000014, 5000016, 5000018] Tryz.f3 = some a_law16_ClusterWritesD := by kernel_rfl
theorem a_law16_ClusterWritesD_cb : callable Tryz.prog 3 = true := by kernel_rfl
end Go.Proofs.YtgidajjjpeboeaaGreatDoor
