/-
  The texts that the claim wants, one behind the other: part 44.
-/
import Derived.Test.YtgidajjjpeboeaaGreatDoorS43
set_option linter.unusedSimpArgs false
set_option linter.unusedVariables false
namespace Go.Proofs.YtgidajjjpeboeaaGreatDoor
open Go.RowKit Go.Maps Go.MapKept Go.ChangeMaps
abbrev opC (kd : Int) (i : OId) (v : V) (n : Int) : List AV := [.int .i64 kd, .str i.k, .str i.s, .str i.n, .int .i64 v.kind, .bool v.b, .int .i64 v.n, .str v.s, .lst .any 6 (rowsV v.l), .lst .any 7 (rowsM v.m), .int .i64 n]
def YB (cl : Clu) : FI → List (Nat × List AV × Bool)
 | none => [(2000000, [.np 2900001 0, .int .i64 cl.last, .lst .nil 1 [], .int .i64 cl.fuse, .bool cl.down, npC], false), (2900001, [mcA (rowsE cl.has)], false)]
 | some (false, i) => [(2000000, [.np 2900001 0, .int .i64 cl.last, .sli 2000001 1 cl.fails.length i.1, .int .i64 cl.fuse, .bool cl.down, npC], false), (2900001, [mcA (rowsE cl.has)], false), (2000001, fC cl.fails i.2, false)]
 | some (true, i) => [(2000000, [.np 2900001 0, .int .i64 cl.last, .sli 1000001 1 cl.fails.length i.1, .int .i64 cl.fuse, .bool cl.down, npC], false), (2900001, [mcA (rowsE cl.has)], false), (1000001, fC cl.fails i.2, false)]
def doI (k : Nat) (x : Clu × FI × Bool) : Prop := CluJ k x.1 ∧ fiOk x.1 x.2.1
abbrev doS (x : Clu × FI × Bool) : List (Nat × List AV) := YY x.1 x.2.1
theorem ret_y {k : Nat} {cl : Clu} (hJ : CluJ k cl) (f : FI) (hf : fiOk cl f) (b : Bool) {res : List ARes} (hres : res = [.tmp 6]) : RQX res (doI k) doS (fun x => .bool x.2.2) .ret (frOf [(6, .bool b)]) ⟨boxOf (YB cl f), fun _ => 0⟩ := by
 subst hres
 rcases f with _ | ⟨_ | _, i⟩
 ·exact ⟨(cl, none, b), ⟨hJ, hf⟩, ⟨_, rfl, rfl⟩, ⟨_, rfl, rfl⟩, ⟨_, rfl, rfl⟩, trivial⟩
 ·exact ⟨(cl, some (false, i), b), ⟨hJ, hf⟩, ⟨_, rfl, rfl⟩, ⟨_, rfl, rfl⟩, ⟨_, rfl, rfl⟩, ⟨_, rfl, told_rowsJ _ _⟩, trivial⟩
 ·exact ⟨(cl, some (true, i), b), ⟨hJ, hf⟩, ⟨_, rfl, rfl⟩, ⟨_, rfl, rfl⟩, ⟨_, rfl, rfl⟩, ⟨_, rfl, told_rowsJ _ _⟩, trivial⟩
def swN (a b i : Nat) : Nat := if i = a then b else if i = b then a else i
theorem swN_inj {a b i j : Nat} (h : swN a b i = swN a b j) : i = j := by
 unfold swN at h
 repeat' split at h
 all_goals omega
theorem swN_mp {a b : Nat} (hab : isMp a = isMp b) (i : Nat) : isMp (swN a b i) = isMp i := by
 unfold swN
 split
 ·rename_i h; rw [h, hab]
 ·split
  ·rename_i h; rw [h, hab]
  ·rfl
theorem rGetA3_m (i : OId) : MS Tryz.prog 31 [(1000003, qA 0 0 0 0)] [.np 1000003 0, .agg (idA i)] [] (.tup [(vA (V.null)), .int .i64 0, .int .i64 3]) := (rGetA_m 0 0 0 0 i).ren (swN 2000002 1000003) (fun _ _ => swN_inj) (swN_mp (by rfl))
theorem rCopy3_m : MS Tryz.prog 30 [(2000002, qS 0 0 0 0)] [.np 2000002 0] [(2000002, qS 0 0 0 0), (1000003, qA 0 0 0 0)] (.np 1000003 0) := (rCopy_m 0 0 0 0).ren (swN 3 1000003) (fun _ _ => swN_inj) (swN_mp (by rfl))
set_option maxHeartbeats 20000000 in
theorem do_n (k : Nat) (hk : k ≤ 1000) (cl : Clu) (hJ : CluJ k cl) (h0 : cl.fails = []) (kd : Int) (i : OId) (hi : OkI i) (v : V) (hv : v.size ≤ 1000000) (hsb : v.sb) (n : Int) (hn : -9223372036854775808 ≤ n ∧ n ≤ 9223372036854775807) :
  MSX Tryz.prog 9 (cluN 2000000 2900001 cl ++ [(2000002, qS 0 0 0 0)]) [.np 2000000 0, .np 2000002 0, .agg (opC kd i v n)] (doI (k + 1)) doS (fun x => .bool x.2.2) := by
 have hw := wrong_v i v hi hsb (by omega)
 have hK := keyI_of hi.1 hi.2.1 hi.2.2
 refine MSX.enter Tryz.func9 a_law16_DoD_ok a_law16_DoD_cb (by rfl) (by rfl) fun E hE => ?_
 show AK _ _ _ [.c b_law16_DoD] _ _
 rw [b_law16_DoD]
 refine kW ?_
 refine kC (fun hb => ?_) fun hb => ?_
 ·refine kW ?_
  refine AK.weak (Weak.introN (L := [(0, .np 2000000 0), (1, .np 2000002 0), (5, .ptr 5 0)]) (BL := [(5, opC kd i v n, false), (2000000, [.np 2900001 0, .int .i64 cl.last, .lst .nil 1 [], .int .i64 cl.fuse, .bool cl.down, npC], false), (2900001, [mcA (rowsE cl.has)], false), (2000002, qS 0 0 0 0, false)]) ⟨kI, kI, kI, trivial⟩ ⟨kJ, kJ, kJ, kJ, trivial⟩ rfl rfl ⟨rfl, rfl, rfl, trivial⟩) ?_
  have hC := create_n cl hJ.i h0 hK v hv _ hw
  have hz := create_0 cl h0 (wrongC i v) i v
  have hQ := rCreate_m i v hi hsb (by omega)
  have hJ2 := hJ.create hk (wrongC i v) hi hv
  generalize (wrongC i v) = eq at hQ
  generalize hc' : (cl.create (wrongC i v) i v).2 = c' at *
  generalize (cl.create (wrongC i v) i v).1 = e at *
  refine AK.regaL fw0 [(true, 0), (true, 1), (true, 2), (true, 3), (true, 4), (true, 6), (true, 7), (true, 8), (true, 9), (true, 10), (false, 5), (false, 11), (false, 12), (false, 13)] [.s [2000000, 2900001] (cluN 2000000 2900001 c') (.int .i64 e), .s [2000002] [] (.int .i64 eq)] (fun _ => none) (fun _ : Unit => True) (fun _ => frOf [(6, .bool (decide (e = eq)))]) (fun _ => ⟨boxOf (YB c' none), fun _ => 0⟩) rfl (by kernel_rfl) ?_ fun _ _ => ?_
  ·(repeat' (first | exact trivial | apply And.intro))
   all_goals first
    | (show _ = _; exact rfl)
    | (show MS _ _ _ _ _ _; exact hC)
    | (show MS _ _ _ _ _ _; exact hQ)
    | exact ⟨(), trivial, Weak.introN ⟨kI, trivial⟩ ⟨kJ, kJ, trivial⟩ rfl rfl ⟨rfl, rfl, trivial⟩⟩
    | exact ⟨(), trivial, Weak.introN ⟨kI, trivial⟩ ⟨kJ, kJ, kJ, ⟨_, rfl, leL_of_eq (clr_rowsJ _ _ _)⟩, kJ, trivial⟩ rfl rfl ⟨rfl, rfl, trivial⟩⟩
  exact AK.ret (ret_y hJ2 none hz _ rfl)
 clear hb
 refine kW ?_
 refine kC (fun hb => ?_) fun hb => ?_
 ·clear hb
  obtain ⟨n', hn'⟩ : ∃ n', n' = if n.tmod 2 = 0 then 0 else n := ⟨_, rfl⟩
  refine kW ?_
  refine kP [] ?_ ?_
  ·((repeat' apply And.intro) <;> first | exact kD | (intro hgd; refine ⟨?_, kG⟩; (repeat' apply And.intro) <;> first | exact kD | skip) | skip)
   all_goals omega
  refine AK.cut (frOf [(0, .np 2000000 0), (1, .np 2000002 0), (5, .ptr 5 0), (7, .int .i64 n')]) ⟨boxOf [(5, opC kd i v n, false), (2000000, [.np 2900001 0, .int .i64 cl.last, .lst .nil 1 [], .int .i64 cl.fuse, .bool cl.down, npC], false), (2900001, [mcA (rowsE cl.has)], false), (2000002, qS 0 0 0 0, false)], fun _ => 0⟩ ?_ ?_
  ·refine kC (fun hb => ?_) fun hb => ?_
   ·have hq : n.tmod 2 = 0 := by simpa using hb
    rw [if_pos hq] at hn'
    subst hn'
    have hCo := rCopy3_m
    have hG := rGetA3_m i
    clear hb
    refine kW ?_
    refine AK.weak (Weak.introN (L := [(0, .np 2000000 0), (1, .np 2000002 0), (5, .ptr 5 0)]) (BL := [(5, opC kd i v n, false), (2000000, [.np 2900001 0, .int .i64 cl.last, .lst .nil 1 [], .int .i64 cl.fuse, .bool cl.down, npC], false), (2900001, [mcA (rowsE cl.has)], false), (2000002, qS 0 0 0 0, false)]) ⟨kI, kI, kI, trivial⟩ ⟨kJ, kJ, kJ, kJ, trivial⟩ rfl rfl ⟨rfl, rfl, rfl, trivial⟩) ?_
    refine AK.regaL fw0 [(true, 0), (true, 2), (true, 3), (false, 1), (false, 4), (false, 5), (false, 6), (false, 7), (false, 8), (false, 9)] [.s [2000002] [(2000002, qS 0 0 0 0), (1000003, qA 0 0 0 0)] (.np 1000003 0), .s [1000003] [] (.tup [(vA (V.null)), .int .i64 0, .int .i64 3])] (fun _ => none) (fun _ : Unit => True) (fun _ => frOf [(0, .np 2000000 0), (1, .np 2000002 0), (5, .ptr 5 0), (7, .int .i64 0)]) (fun _ => ⟨boxOf [(5, opC kd i v n, false), (2000000, [.np 2900001 0, .int .i64 cl.last, .lst .nil 1 [], .int .i64 cl.fuse, .bool cl.down, npC], false), (2900001, [mcA (rowsE cl.has)], false), (2000002, qS 0 0 0 0, false)], fun _ => 0⟩) rfl (by kernel_rfl) ?_ fun _ _ => ?_
    ·(repeat' (first | exact trivial | apply And.intro))
     all_goals first
      | (show _ = _; exact rfl)
      | (show MS _ _ _ _ _ _; exact hCo)
      | (show MS _ _ _ _ _ _; exact hG)
      | exact ⟨(), trivial, Weak.introN ⟨kI, kI, kI, kI, trivial⟩ ⟨kJ, kJ, kJ, kJ, trivial⟩ rfl rfl ⟨rfl, rfl, rfl, trivial⟩⟩
      | exact ⟨(), trivial, Weak.introN ⟨kI, kI, kI, kI, trivial⟩ ⟨kJ, kJ, kJ, ⟨_, rfl, leL_of_eq (clr_rowsJ _ _ _)⟩, kJ, trivial⟩ rfl rfl ⟨rfl, rfl, rfl, trivial⟩⟩
    exact AK.cutEnd (Weak.introN ⟨kI, kI, kI, kI, trivial⟩ ⟨kJ, kJ, kJ, kJ, trivial⟩ rfl rfl ⟨rfl, rfl, rfl, trivial⟩)
   ·have hq : ¬ n.tmod 2 = 0 := by simpa using hb
    rw [if_neg hq] at hn'
    subst hn'
    refine kW ?_
    exact AK.cutEnd (Weak.introN ⟨kI, kI, kI, kI, trivial⟩ ⟨kJ, kJ, kJ, kJ, trivial⟩ rfl rfl ⟨rfl, rfl, rfl, trivial⟩)
  clear hn'
  refine kW ?_
  have hC := patch_n cl hJ.i h0 hK n' v hv _ hw
  have hz := patch_0 cl h0 (wrongC i v) i n' v
  have hQ := rPatch_m i n' v hi hsb (by omega)
  have hJ2 := hJ.patch hk (wrongC i v) n' hi hv
  generalize (if wrongC i v ≠ 0 then wrongC i v else 3) = eq at hQ
  generalize hc' : (cl.patch (wrongC i v) i n' v).2 = c' at *
  generalize (cl.patch (wrongC i v) i n' v).1 = e at *
  refine AK.regaL fw0 [(true, 0), (true, 1), (true, 2), (true, 3), (true, 4), (true, 5), (true, 7), (true, 8), (true, 9), (true, 10), (true, 11), (true, 12), (false, 6), (false, 13), (false, 14), (false, 15)] [.s [2000000, 2900001] (cluN 2000000 2900001 c') (.int .i64 e), .s [2000002] [] (.int .i64 eq)] (fun _ => none) (fun _ : Unit => True) (fun _ => frOf [(6, .bool (decide (e = eq)))]) (fun _ => ⟨boxOf (YB c' none), fun _ => 0⟩) rfl (by kernel_rfl) ?_ fun _ _ => ?_
  ·(repeat' (first | exact trivial | apply And.intro))
   all_goals first
    | (show _ = _; exact rfl)
    | (show MS _ _ _ _ _ _; exact hC)
    | (show MS _ _ _ _ _ _; exact hQ)
    | exact ⟨(), trivial, Weak.introN ⟨kI, trivial⟩ ⟨kJ, kJ, trivial⟩ rfl rfl ⟨rfl, rfl, trivial⟩⟩
    | exact ⟨(), trivial, Weak.introN ⟨kI, trivial⟩ ⟨kJ, kJ, kJ, ⟨_, rfl, leL_of_eq (clr_rowsJ _ _ _)⟩, kJ, trivial⟩ rfl rfl ⟨rfl, rfl, trivial⟩⟩
  exact AK.ret (ret_y hJ2 none hz _ rfl)
 clear hb
 refine kW ?_
 refine kC (fun hb => ?_) fun hb => ?_
 ·refine kW ?_
  refine AK.weak (Weak.introN (L := [(0, .np 2000000 0), (1, .np 2000002 0), (5, .ptr 5 0)]) (BL := [(5, opC kd i v n, false), (2000000, [.np 2900001 0, .int .i64 cl.last, .lst .nil 1 [], .int .i64 cl.fuse, .bool cl.down, npC], false), (2900001, [mcA (rowsE cl.has)], false), (2000002, qS 0 0 0 0, false)]) ⟨kI, kI, kI, trivial⟩ ⟨kJ, kJ, kJ, kJ, trivial⟩ rfl rfl ⟨rfl, rfl, rfl, trivial⟩) ?_
  have hC := delete_n cl hJ.i h0 hK
  have hz := delete_0 cl h0 i
  have hQ := rDelete_m i
  have hJ2 := hJ.delete i
  generalize hc' : (cl.delete i).2 = c' at *
  generalize (cl.delete i).1 = e at *
  refine AK.regaL fw0 [(true, 0), (true, 1), (true, 2), (true, 4), (true, 5), (true, 6), (false, 3), (false, 7), (false, 8), (false, 9)] [.s [2000000, 2900001] (cluN 2000000 2900001 c') (.int .i64 e), .s [2000002] [] (.int .i64 3)] (fun _ => none) (fun _ : Unit => True) (fun _ => frOf [(6, .bool (decide (e = 3)))]) (fun _ => ⟨boxOf (YB c' none), fun _ => 0⟩) rfl (by kernel_rfl) ?_ fun _ _ => ?_
  ·(repeat' (first | exact trivial | apply And.intro))
   all_goals first
    | (show _ = _; exact rfl)
    | (show MS _ _ _ _ _ _; exact hC)
    | (show MS _ _ _ _ _ _; exact hQ)
    | exact ⟨(), trivial, Weak.introN ⟨kI, trivial⟩ ⟨kJ, kJ, trivial⟩ rfl rfl ⟨rfl, rfl, trivial⟩⟩
    | exact ⟨(), trivial, Weak.introN ⟨kI, trivial⟩ ⟨kJ, kJ, kJ, ⟨_, rfl, leL_of_eq (clr_rowsJ _ _ _)⟩, kJ, trivial⟩ rfl rfl ⟨rfl, rfl, trivial⟩⟩
  exact AK.ret (ret_y hJ2 none hz _ rfl)
 clear hb
 refine kW ?_
 refine kC (fun hb => ?_) fun hb => ?_
 ·refine kW ?_
  refine AK.weak (Weak.introN (L := [(0, .np 2000000 0), (1, .np 2000002 0), (5, .ptr 5 0)]) (BL := [(5, opC kd i v n, false), (2000000, [.np 2900001 0, .int .i64 cl.last, .lst .nil 1 [], .int .i64 cl.fuse, .bool cl.down, npC], false), (2900001, [mcA (rowsE cl.has)], false), (2000002, qS 0 0 0 0, false)]) ⟨kI, kI, kI, trivial⟩ ⟨kJ, kJ, kJ, kJ, trivial⟩ rfl rfl ⟨rfl, rfl, rfl, trivial⟩) ?_
  have hE : MS Tryz.prog 18 (cluN 2000000 2900001 cl) [.np 2000000 0, .agg (idA i), (vA (v))] (cluN 2000000 2900001 (cl.edit (wrongC i v) i v).2) (.int .i64 (cl.edit (wrongC i v) i v).1) := MS.hideNil fun u hu => edit_r u hu cl hJ.i.k hK v hv _ hw
  have hQ := rEdit_m i v hi hsb (by omega)
  have hJ2 := hJ.edit hk (wrongC i v) hi hv
  have hz := edit_f cl (wrongC i v) i v
  generalize hc' : (cl.edit (wrongC i v) i v).2 = c' at *
  generalize (cl.edit (wrongC i v) i v).1 = e at *
  refine AK.regaL fw0 [(true, 0), (true, 1), (true, 2), (true, 3), (true, 4), (true, 6), (true, 7), (true, 8), (true, 9), (true, 10), (false, 5), (false, 11), (false, 12), (false, 13)] [.s [2000000, 2900001] (cluN 2000000 2900001 c') (.int .i64 e), .s [2000002] [] (.int .i64 (wrongC i v))] (fun _ => none) (fun _ : Unit => True) (fun _ => frOf [(6, .bool (decide (e = wrongC i v)))]) (fun _ => ⟨boxOf (YB c' (none)), fun _ => 0⟩) rfl (by kernel_rfl) ?_ fun _ _ => ?_
  ·(repeat' (first | exact trivial | apply And.intro))
   all_goals first
    | (show _ = _; exact rfl)
    | (show MS _ _ _ _ _ _; exact hE)
    | (show MS _ _ _ _ _ _; exact hQ)
    | exact ⟨(), trivial, Weak.introN ⟨kI, trivial⟩ ⟨kJ, kJ, trivial⟩ rfl rfl ⟨rfl, rfl, trivial⟩⟩
    | exact ⟨(), trivial, Weak.introN ⟨kI, trivial⟩ ⟨kJ, kJ, kJ, ⟨_, rfl, leL_of_eq (clr_rowsJ _ _ _)⟩, kJ, trivial⟩ rfl rfl ⟨rfl, rfl, trivial⟩⟩
  exact AK.ret (ret_y hJ2 (none) (hz.trans h0) _ rfl)
 clear hb
 refine kW ?_
 refine kC (fun hb => ?_) fun hb => ?_
 ·have hG : MS Tryz.prog 28 (cluN 2000000 2900001 cl) [.np 2000000 0, .agg (idA i)] (cluN 2000000 2900001 cl) (.tup [(vA ((cl.get i).1)), .int .i64 (cl.get i).2.1, .int .i64 (cl.get i).2.2]) := MS.hideNil fun u hu => get_r u hu cl hJ.i.k hK
  have hQ := rGet_m 0 0 0 0 i
  have hgz := get_size cl hJ.i.ok i
  generalize cl.get i = g at *
  obtain ⟨g1, g2, g3⟩ := g
  dsimp only at hG hgz
  have hS := refSame_a g1.size g1 V.null (Nat.le_refl _) (by omega)
  refine kW ?_
  refine kQ [.s [2000000, 2900001] (cluN 2000000 2900001 cl) (.tup [(vA (g1)), .int .i64 g2, .int .i64 g3])] ?_
  refine kW ?_
  refine kQ [.s [2000002] [] (.tup [(vA (V.null)), .int .i64 0, .int .i64 3])] ?_
  refine kW ?_
  refine kQ [.v (.bool (g1.sameB V.null))] ?_
  refine kW ?_
  exact AK.ret ⟨(cl, none, _), ⟨hJ.more (by omega), h0⟩, ⟨_, rfl, rfl⟩, ⟨_, rfl, rfl⟩, ⟨_, rfl, rfl⟩, trivial⟩
 clear hb
 refine kW ?_
 refine kC (fun hb => ?_) fun hb => ?_
 ·have hF := fail_n cl h0 n
  have hJ2 := hJ.fail hk hn
  refine kW ?_
  refine AK.regs ?_
  refine SK.run 4 [] ?_ ?_
  ·((repeat' apply And.intro) <;> first | exact kD | (intro hgd; refine ⟨?_, kG⟩; (repeat' apply And.intro) <;> first | exact kD | skip) | skip)
  refine SK.callX (cluFI (cl.fails ++ [n])) (fun j => cluO 2000000 2900001 1000001 { cl with fails := cl.fails ++ [n] } j) (fun _ => .tup []) [2000000, 2900001] hF (fun j hj => ?_) fun ⟨cap, sp⟩ hj => ?_
  ·show (((true && (true && (true && ((fC (cl.fails ++ [n]) j.2).all (AV.inS [2000000, 2900001, 1000001]) && true)))) && true) && true) = true
   rw [all_rowsJ (fun _ => rfl) rfl]
   rfl
  refine SK.nil ?_
  refine kW ?_
  refine kP [] ?_ ?_
  ·((repeat' apply And.intro) <;> first | exact kD | (intro hgd; refine ⟨?_, kG⟩; (repeat' apply And.intro) <;> first | exact kD | skip) | skip)
   all_goals exact Nat.le_of_ble_eq_true rfl
  refine kW ?_
  exact AK.ret ⟨({ cl with fails := cl.fails ++ [n] }, some (true, cap, sp), _), ⟨hJ2, hj⟩, ⟨_, rfl, rfl⟩, ⟨_, rfl, rfl⟩, ⟨_, rfl, rfl⟩, ⟨_, rfl, told_rowsJ _ _⟩, trivial⟩
 clear hb
 refine kW ?_
 refine kC (fun hb => ?_) fun hb => ?_
 ·have hF : MS Tryz.prog 25 (cluN 2000000 2900001 cl) [.np 2000000 0, .int .i64 n] (cluN 2000000 2900001 { cl with fuse := n }) (.tup []) := MS.hideNil fun u hu => fuse_r u hu cl n
  refine kW ?_
  refine kQ [.s [2000000, 2900001] (cluN 2000000 2900001 { cl with fuse := n }) (.tup [])] ?_
  refine kW ?_
  exact AK.ret ⟨({ cl with fuse := n }, none, _), ⟨(hJ.fuse hn).more (by omega), h0⟩, ⟨_, rfl, rfl⟩, ⟨_, rfl, rfl⟩, ⟨_, rfl, rfl⟩, trivial⟩
 clear hb
 refine kW ?_
 refine kC (fun hb => ?_) fun hb => ?_
 ·have hF : MS Tryz.prog 37 (cluN 2000000 2900001 cl) [.np 2000000 0] (cluN 2000000 2900001 { cl with down := false, fuse := -1, fails := [] }) (.tup []) := restart_n cl
  refine kW ?_
  refine kQ [.s [2000000, 2900001] (cluN 2000000 2900001 { cl with down := false, fuse := -1, fails := [] }) (.tup [])] ?_
  refine kW ?_
  exact AK.ret ⟨({ cl with down := false, fuse := -1, fails := [] }, none, _), ⟨hJ.restart.more (by omega), rfl⟩, ⟨_, rfl, rfl⟩, ⟨_, rfl, rfl⟩, ⟨_, rfl, rfl⟩, trivial⟩
 clear hb
 refine kW ?_
 exact AK.ret ⟨(cl, none, _), ⟨hJ.more (by omega), h0⟩, ⟨_, rfl, rfl⟩, ⟨_, rfl, rfl⟩, ⟨_, rfl, rfl⟩, trivial⟩
end Go.Proofs.YtgidajjjpeboeaaGreatDoor
