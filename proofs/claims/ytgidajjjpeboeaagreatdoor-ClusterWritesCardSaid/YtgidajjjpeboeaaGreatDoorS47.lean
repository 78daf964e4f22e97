/-
  The texts that the claim wants, one behind the other: part 47.
-/
import Derived.Test.YtgidajjjpeboeaaGreatDoorS46
set_option linter.unusedSimpArgs false
set_option linter.unusedVariables false
namespace Go.Proofs.YtgidajjjpeboeaaGreatDoor
open Go.RowKit Go.Maps Go.MapKept Go.ChangeMaps
def sndW : ACode → ACode
 | .seq _ b => b
 | a => a
def YBA (cl : Clu) : FI → List (Nat × List AV × Bool)
 | none => [(1000100, [.np 1900101 0, .int .i64 cl.last, .lst .nil 1 [], .int .i64 cl.fuse, .bool cl.down, npC], false), (1900101, [mcA (rowsE cl.has)], false)]
 | some (false, i) => [(1000100, [.np 1900101 0, .int .i64 cl.last, .sli 1000101 1 cl.fails.length i.1, .int .i64 cl.fuse, .bool cl.down, npC], false), (1900101, [mcA (rowsE cl.has)], false), (1000101, fC cl.fails i.2, false)]
 | some (true, i) => [(1000100, [.np 1900101 0, .int .i64 cl.last, .sli 1000102 1 cl.fails.length i.1, .int .i64 cl.fuse, .bool cl.down, npC], false), (1900101, [mcA (rowsE cl.has)], false), (1000102, fC cl.fails i.2, false)]
theorem cw_tail (kd : Int) (i : OId) (v : V) (n : Int) (was now : List Ob) (hw : was.length ≤ 1000000 ∧ ∀ o ∈ was, o.v.size ≤ 1000000) (hn : now.length ≤ 1000000 ∧ ∀ o ∈ now, o.v.size ≤ 1000000) (e : Int) (h1 : e ≠ 0 → now = was) (h2 : e = 0 → othersO i now = othersO i was) (E : Env) (hE : E.n = a_law16_ClusterWritesD.n) :
  AK Tryz.prog E (RQ a_law16_ClusterWritesD.res (.bool true)) [.c (sndW (sndW (sndW (sndW (sndW (sndW (sndW (sndW b_law16_ClusterWritesD))))))))] (frOf [(3, .ptr 3 0), (8, .lst .any 9 (rowsO was)), (9, .int .i64 e), (10, .lst .any 9 (rowsO now))]) ⟨boxOf [(3, opC kd i v n, false)], fun _ => 0⟩ := by
 have hA := awakeCl_a
 rw [b_law16_ClusterWritesD]
 simp only [sndW]
 refine kW ?_
 refine kC (fun hb => ?_) fun hb => ?_
 ·have he : e ≠ 0 := by simpa using hb
  have h1 := h1 he
  subst h1
  have hS := same12_refl now hw.1 hw.2
  refine kW ?_
  refine kQ [.v (.bool true), .v (.bool true)] ?_
  refine kW ?_
  refine AK.ret ⟨_, rfl, ?_⟩
  rfl
 have he : e = 0 := by simpa using hb
 have h2 := h2 he
 clear hb h1
 refine kW ?_
 refine AK.loopI (fun x : Nat × (Nat → Nat) => (frOf [(3, .ptr 3 0), (10, .lst .any 9 (rowsO now)), (11, .lst (.own 94 (x.2 94)) 9 (rowsO (othersO i (was.take x.1)))), (12, .lst .nil 9 []), (80, .lst .any 9 (rowsO was)), (81, .int .i64 (rowsO was).length), (82, .int .i64 x.1)], ⟨boxOf [(3, opC kd i v n, false)], x.2⟩)) (fun x => x.1 ≤ was.length) (fun x => was.length - x.1) (0, fun _ => 0) (Nat.zero_le _) (Weak.intro ⟨kI, kI, ⟨_, rfl, .one (.own _ _ _ _)⟩, kI, kI, kI, kI, trivial⟩ ⟨kJ, trivial⟩ rfl rfl) fun ⟨k, r⟩ hk => ?_
 dsimp only at hk
 refine kW ?_
 refine kC (fun hb => ?_) fun hb => ?_
 ·have hlt : k < was.length := by simpa [rowsO_len] using hb
  obtain ⟨o, hg⟩ : ∃ x, was[k]? = some x := ⟨_, List.getElem?_eq_getElem hlt⟩
  have hst := othersO_take (i := i) hg
  have hol := othersO_len i (was.take k)
  rw [List.length_take] at hol
  have hq := eqID_any true o.k o.s o.n i.k i.s i.n
  clear hb
  refine kW ?_
  refine kP [.c (obC o)] ?_ ?_
  ·((repeat' apply And.intro) <;> first | exact kD | (intro hgd; refine ⟨?_, kG⟩; (repeat' apply And.intro) <;> first | exact kD | skip) | skip)
   all_goals exact rowsO_at hg
  refine kW ?_
  refine kP [] ?_ ?_
  ·((repeat' apply And.intro) <;> first | exact kD | (intro hgd; refine ⟨?_, kG⟩; (repeat' apply And.intro) <;> first | exact kD | skip) | skip)
   all_goals exact hq
  refine kC (fun hb => ?_) fun hb => ?_
  ·have hb2 : eqCells [.str o.k, .str o.s, .str o.n] [.str i.k, .str i.s, .str i.n] = false := by simpa using hb
   rw [hb2, if_neg (by simp)] at hst
   refine kW ?_
   refine kP [] ?_ ?_
   ·((repeat' apply And.intro) <;> first | exact kD | (intro hgd; refine ⟨?_, kG⟩; (repeat' apply And.intro) <;> first | exact kD | skip) | skip)
    all_goals simp only [rowsO_len, List.length_nil, List.length_cons]
    all_goals omega
   refine kW ?_
   exact AK.lp ⟨(k + 1, _), by dsimp only; omega, Weak.intro ⟨kI, kI, ⟨_, rfl, .of_eq (congrArg (AV.lst _ 9) (by rw [hst]; exact (rowsO_snoc _ o).symm))⟩, kI, kI, kI, kU, trivial⟩ ⟨kJ, trivial⟩ rfl rfl, by dsimp only; omega⟩
  ·have hb2 : eqCells [.str o.k, .str o.s, .str o.n] [.str i.k, .str i.s, .str i.n] = true := by simpa using hb
   rw [hb2, if_pos rfl, List.append_nil] at hst
   refine kW ?_
   exact AK.lp ⟨(k + 1, r), by dsimp only; omega, Weak.intro ⟨kI, kI, ⟨_, rfl, .of_eq (congrArg (AV.lst _ 9) (by rw [hst]))⟩, kI, kI, kI, kU, trivial⟩ ⟨kJ, trivial⟩ rfl rfl, by dsimp only; omega⟩
 have hlt : k = was.length := by
  have : was.length ≤ k := by simpa [rowsO_len] using hb
  omega
 subst hlt
 clear hb
 rw [List.take_length]
 refine AK.exit rfl ?_
 refine kW ?_
 refine AK.loopI (fun x : Nat × (Nat → Nat) => (frOf [(3, .ptr 3 0), (11, .lst .any 9 (rowsO (othersO i was))), (12, .lst (.own 110 (x.2 110)) 9 (rowsO (othersO i (now.take x.1)))), (96, .lst .any 9 (rowsO now)), (97, .int .i64 (rowsO now).length), (98, .int .i64 x.1)], ⟨boxOf [(3, opC kd i v n, false)], x.2⟩)) (fun x => x.1 ≤ now.length) (fun x => now.length - x.1) (0, r) (Nat.zero_le _) (Weak.intro ⟨kI, ⟨_, rfl, .one (.any _ _ _)⟩, ⟨_, rfl, .one (.own _ _ _ _)⟩, kI, kI, kI, trivial⟩ ⟨kJ, trivial⟩ rfl rfl) fun ⟨k, r⟩ hk => ?_
 dsimp only at hk
 refine kW ?_
 refine kC (fun hb => ?_) fun hb => ?_
 ·have hlt : k < now.length := by simpa [rowsO_len] using hb
  obtain ⟨o, hg⟩ : ∃ x, now[k]? = some x := ⟨_, List.getElem?_eq_getElem hlt⟩
  have hst := othersO_take (i := i) hg
  have hol := othersO_len i (now.take k)
  rw [List.length_take] at hol
  have hq := eqID_any true o.k o.s o.n i.k i.s i.n
  clear hb
  refine kW ?_
  refine kP [.c (obC o)] ?_ ?_
  ·((repeat' apply And.intro) <;> first | exact kD | (intro hgd; refine ⟨?_, kG⟩; (repeat' apply And.intro) <;> first | exact kD | skip) | skip)
   all_goals exact rowsO_at hg
  refine kW ?_
  refine kP [] ?_ ?_
  ·((repeat' apply And.intro) <;> first | exact kD | (intro hgd; refine ⟨?_, kG⟩; (repeat' apply And.intro) <;> first | exact kD | skip) | skip)
   all_goals exact hq
  refine kC (fun hb => ?_) fun hb => ?_
  ·have hb2 : eqCells [.str o.k, .str o.s, .str o.n] [.str i.k, .str i.s, .str i.n] = false := by simpa using hb
   rw [hb2, if_neg (by simp)] at hst
   refine kW ?_
   refine kP [] ?_ ?_
   ·((repeat' apply And.intro) <;> first | exact kD | (intro hgd; refine ⟨?_, kG⟩; (repeat' apply And.intro) <;> first | exact kD | skip) | skip)
    all_goals simp only [rowsO_len, List.length_nil, List.length_cons]
    all_goals omega
   refine kW ?_
   exact AK.lp ⟨(k + 1, _), by dsimp only; omega, Weak.intro ⟨kI, kI, ⟨_, rfl, .of_eq (congrArg (AV.lst _ 9) (by rw [hst]; exact (rowsO_snoc _ o).symm))⟩, kI, kI, kU, trivial⟩ ⟨kJ, trivial⟩ rfl rfl, by dsimp only; omega⟩
  ·have hb2 : eqCells [.str o.k, .str o.s, .str o.n] [.str i.k, .str i.s, .str i.n] = true := by simpa using hb
   rw [hb2, if_pos rfl, List.append_nil] at hst
   refine kW ?_
   exact AK.lp ⟨(k + 1, r), by dsimp only; omega, Weak.intro ⟨kI, kI, ⟨_, rfl, .of_eq (congrArg (AV.lst _ 9) (by rw [hst]))⟩, kI, kI, kU, trivial⟩ ⟨kJ, trivial⟩ rfl rfl, by dsimp only; omega⟩
 have hlt : k = now.length := by
  have : now.length ≤ k := by simpa [rowsO_len] using hb
  omega
 subst hlt
 clear hb
 rw [List.take_length]
 refine AK.exit rfl ?_
 refine kW ?_
 have hS := same12_refl (othersO i was) (by have := othersO_len i was; omega) fun o ho => hw.2 o (othersO_mem ho)
 rw [h2]
 refine kQ [.v (.bool true), .v (.bool true)] ?_
 refine kW ?_
 refine AK.ret ⟨_, rfl, ?_⟩
 rfl
theorem cw_obj2 (kd : Int) (i : OId) (v : V) (n : Int) (was : List Ob) (hw : was.length ≤ 1000000 ∧ ∀ o ∈ was, o.v.size ≤ 1000000) (e : Int) (c : Clu) (hok : CluOk c) (h1 : e ≠ 0 → c.objects = was) (h2 : e = 0 → othersO i c.objects = othersO i was) (f : FI) (E : Env) (hE : E.n = a_law16_ClusterWritesD.n) :
  AK Tryz.prog E (RQ a_law16_ClusterWritesD.res (.bool true)) [.c (sndW (sndW (sndW (sndW (sndW (sndW (sndW b_law16_ClusterWritesD)))))))] (frOf [(3, .ptr 3 0), (5, .np 1000100 0), (8, .lst .any 9 (rowsO was)), (9, .int .i64 e)]) ⟨boxOf ((3, opC kd i v n, false) :: YBA c f), fun _ => 0⟩ := by
 have hT := cw_tail kd i v n was c.objects hw (objects_all hok) e h1 h2 E hE
 rcases f with _ | ⟨_ | _, cap, sp⟩
 ·have hO := objN c hok
  rw [b_law16_ClusterWritesD]
  simp only [sndW]
  refine kW ?_
  refine kP [.s [1000100, 1900101] (cluN 1000100 1900101 c) (.lst .any 9 (rowsO c.objects))] ?_ ?_
  ·exact ⟨⟨hO, rfl⟩, trivial⟩
  refine AK.weak (Weak.introN (L := [(3, .ptr 3 0), (8, .lst .any 9 (rowsO was)), (9, .int .i64 e), (10, .lst .any 9 (rowsO c.objects))]) (BL := [(3, opC kd i v n, false)]) ⟨kI, kI, kI, kI, trivial⟩ ⟨kJ, trivial⟩ rfl rfl trivial) ?_
  exact hT
 ·have hO := objA c hok (cap, sp)
  rw [b_law16_ClusterWritesD]
  simp only [sndW]
  refine kW ?_
  refine kP [.s [1000100, 1900101, 1000101] (cluO 1000100 1900101 1000101 c (cap, sp)) (.lst .any 9 (rowsO c.objects))] ?_ ?_
  ·exact ⟨⟨hO, (by show (((true && (true && (true && ((fC c.fails sp).all (AV.inS [1000100, 1900101, 1000101]) && true)))) && true) && true) = true; rw [all_rowsJ (fun _ => rfl) rfl]; rfl)⟩, trivial⟩
  refine AK.weak (Weak.introN (L := [(3, .ptr 3 0), (8, .lst .any 9 (rowsO was)), (9, .int .i64 e), (10, .lst .any 9 (rowsO c.objects))]) (BL := [(3, opC kd i v n, false)]) ⟨kI, kI, kI, kI, trivial⟩ ⟨kJ, trivial⟩ rfl rfl trivial) ?_
  exact hT
 ·have hO := objB c hok (cap, sp)
  rw [b_law16_ClusterWritesD]
  simp only [sndW]
  refine kW ?_
  refine kP [.s [1000100, 1900101, 1000102] (cluO 1000100 1900101 1000102 c (cap, sp)) (.lst .any 9 (rowsO c.objects))] ?_ ?_
  ·exact ⟨⟨hO, (by show (((true && (true && (true && ((fC c.fails sp).all (AV.inS [1000100, 1900101, 1000102]) && true)))) && true) && true) = true; rw [all_rowsJ (fun _ => rfl) rfl]; rfl)⟩, trivial⟩
  refine AK.weak (Weak.introN (L := [(3, .ptr 3 0), (8, .lst .any 9 (rowsO was)), (9, .int .i64 e), (10, .lst .any 9 (rowsO c.objects))]) (BL := [(3, opC kd i v n, false)]) ⟨kI, kI, kI, kI, trivial⟩ ⟨kJ, trivial⟩ rfl rfl trivial) ?_
  exact hT
set_option maxHeartbeats 4000000 in
theorem cw_mid (kd : Int) (i : OId) (hi : OkI i) (v : V) (hv : v.size ≤ 1000000) (hsb : v.sb) (n : Int) (k : Nat) (hk : k ≤ 60) (cl : Clu) (hJ : CluJ k cl) (f : FI) (hf : fiOk cl f) (E : Env) (hE : E.n = a_law16_ClusterWritesD.n) :
  AK Tryz.prog E (RQ a_law16_ClusterWritesD.res (.bool true)) [.c (sndW (sndW (sndW (sndW b_law16_ClusterWritesD))))] (frOf [(3, .ptr 3 0), (5, .np 1000100 0)]) ⟨boxOf ((3, opC kd i v n, false) :: YBA cl f), fun _ => 0⟩ := by
 have hok := hJ.i.ok
 rcases f with _ | ⟨_ | _, cap, sp⟩
 ·have hO := objN cl hok
  have h0 : cl.fails = [] := hf
  rw [b_law16_ClusterWritesD]
  simp only [sndW]
  refine kW ?_
  refine kP [.s [1000100, 1900101] (cluN 1000100 1900101 cl) (.lst .any 9 (rowsO cl.objects))] ?_ ?_
  ·exact ⟨⟨hO, rfl⟩, trivial⟩
  refine kW ?_
  refine kC (fun hb => ?_) fun hb => ?_
  ·clear hb
   have hJ2 := hJ.create (by omega) (wrongC i v) hi hv
   have hT := cw_obj2 kd i v n cl.objects (objects_all hok) (cl.create (wrongC i v) i v).1 (cl.create (wrongC i v) i v).2 hJ2.i.ok (fun h => by unfold Clu.objects; rw [create_bad h]) (fun _ => objects_others hok hJ2.i.ok i create_others)
   have hT := fun f => hT f E hE
   have hC := createN cl hJ.i hi v hv hsb h0
   generalize (cl.create (wrongC i v) i v).1 = e at *
   generalize (cl.create (wrongC i v) i v).2 = c at *
   refine AK.regs ?_
   refine SK.all [.s [1000100, 1900101] (cluN 1000100 1900101 c) (.int .i64 e)] (p := (_ ∧ _) ∧ True) ⟨⟨hC, rfl⟩, trivial⟩ ?_
   refine AK.blk ?_
   refine AK.weak (Weak.introN (L := [(3, .ptr 3 0), (5, .np 1000100 0), (8, .lst .any 9 (rowsO cl.objects)), (9, .int .i64 e)]) (BL := (3, opC kd i v n, false) :: YBA c (none)) ⟨kI, kI, kI, kI, trivial⟩ ⟨kJ, kJ, kJ, trivial⟩ rfl rfl ⟨rfl, rfl, trivial⟩) ?_
   exact hT (none)
  clear hb
  refine kW ?_
  refine kC (fun hb => ?_) fun hb => ?_
  ·clear hb
   have hJ2 := hJ.patch (by omega) (wrongC i v) n hi hv
   have hT := cw_obj2 kd i v n cl.objects (objects_all hok) (cl.patch (wrongC i v) i n v).1 (cl.patch (wrongC i v) i n v).2 hJ2.i.ok (fun h => by unfold Clu.objects; rw [patch_bad h]) (fun _ => objects_others hok hJ2.i.ok i patch_others)
   have hT := fun f => hT f E hE
   have hC := patchN cl hJ.i hi v hv hsb n h0
   generalize (cl.patch (wrongC i v) i n v).1 = e at *
   generalize (cl.patch (wrongC i v) i n v).2 = c at *
   refine AK.regs ?_
   refine SK.all [.s [1000100, 1900101] (cluN 1000100 1900101 c) (.int .i64 e)] (p := (_ ∧ _) ∧ True) ⟨⟨hC, rfl⟩, trivial⟩ ?_
   refine AK.blk ?_
   refine AK.weak (Weak.introN (L := [(3, .ptr 3 0), (5, .np 1000100 0), (8, .lst .any 9 (rowsO cl.objects)), (9, .int .i64 e)]) (BL := (3, opC kd i v n, false) :: YBA c (none)) ⟨kI, kI, kI, kI, trivial⟩ ⟨kJ, kJ, kJ, trivial⟩ rfl rfl ⟨rfl, rfl, trivial⟩) ?_
   exact hT (none)
  clear hb
  have hJ2 := hJ.delete i
  have hT := cw_obj2 kd i v n cl.objects (objects_all hok) (cl.delete i).1 (cl.delete i).2 hJ2.i.ok (fun h => by unfold Clu.objects; rw [delete_bad h]) (fun _ => objects_others hok hJ2.i.ok i delete_others)
  have hT := fun f => hT f E hE
  have hC := deleteN cl hJ.i hi h0
  generalize (cl.delete i).1 = e at *
  generalize (cl.delete i).2 = c at *
  refine AK.regs ?_
  refine SK.all [.s [1000100, 1900101] (cluN 1000100 1900101 c) (.int .i64 e)] (p := (_ ∧ _) ∧ True) ⟨⟨hC, rfl⟩, trivial⟩ ?_
  refine AK.blk ?_
  refine AK.weak (Weak.introN (L := [(3, .ptr 3 0), (5, .np 1000100 0), (8, .lst .any 9 (rowsO cl.objects)), (9, .int .i64 e)]) (BL := (3, opC kd i v n, false) :: YBA c (none)) ⟨kI, kI, kI, kI, trivial⟩ ⟨kJ, kJ, kJ, trivial⟩ rfl rfl ⟨rfl, rfl, trivial⟩) ?_
  exact hT (none)
 ·have hO := objA cl hok (cap, sp)
  have hf : cluFI cl.fails (cap, sp) := hf
  rw [b_law16_ClusterWritesD]
  simp only [sndW]
  refine kW ?_
  refine kP [.s [1000100, 1900101, 1000101] (cluO 1000100 1900101 1000101 cl (cap, sp)) (.lst .any 9 (rowsO cl.objects))] ?_ ?_
  ·exact ⟨⟨hO, (by show (((true && (true && (true && ((fC cl.fails sp).all (AV.inS [1000100, 1900101, 1000101]) && true)))) && true) && true) = true; rw [all_rowsJ (fun _ => rfl) rfl]; rfl)⟩, trivial⟩
  refine kW ?_
  refine kC (fun hb => ?_) fun hb => ?_
  ·clear hb
   have hJ2 := hJ.create (by omega) (wrongC i v) hi hv
   have hT := cw_obj2 kd i v n cl.objects (objects_all hok) (cl.create (wrongC i v) i v).1 (cl.create (wrongC i v) i v).2 hJ2.i.ok (fun h => by unfold Clu.objects; rw [create_bad h]) (fun _ => objects_others hok hJ2.i.ok i create_others)
   have hT := fun f => hT f E hE
   have hC := createA cl hJ.i hi v hv hsb (cap, sp) hf
   generalize (cl.create (wrongC i v) i v).1 = e at *
   generalize (cl.create (wrongC i v) i v).2 = c at *
   refine AK.regs ?_
   refine SK.run 5 [] trivial ?_
   refine SK.callX (fiOk c) (YA c) (fun _ => .int .i64 e) [1000100, 1900101, 1000101] hC (fun j hj => ?_) fun j hj => ?_
   ·rcases j with _ | ⟨_ | _, cap', sp'⟩
    ·exact rfl
    ·exact (by show (((true && (true && (true && ((fC c.fails sp').all (AV.inS [1000100, 1900101, 1000101]) && true)))) && true) && true) = true; rw [all_rowsJ (fun _ => rfl) rfl]; rfl)
    ·exact (by show (((true && (true && (true && ((fC c.fails sp').all (AV.inS [1000100, 1900101, 1000102]) && true)))) && true) && true) = true; rw [all_rowsJ (fun _ => rfl) rfl]; rfl)
   rcases j with _ | ⟨_ | _, cap', sp'⟩
   ·refine SK.all [] trivial ?_
    refine AK.blk ?_
    refine AK.weak (Weak.introN (L := [(3, .ptr 3 0), (5, .np 1000100 0), (8, .lst .any 9 (rowsO cl.objects)), (9, .int .i64 e)]) (BL := (3, opC kd i v n, false) :: YBA c (none)) ⟨kI, kI, kI, kI, trivial⟩ ⟨kJ, kJ, kJ, trivial⟩ rfl rfl ⟨rfl, rfl, trivial⟩) ?_
    exact hT (none)
   ·refine SK.all [] trivial ?_
    refine AK.blk ?_
    refine AK.weak (Weak.introN (L := [(3, .ptr 3 0), (5, .np 1000100 0), (8, .lst .any 9 (rowsO cl.objects)), (9, .int .i64 e)]) (BL := (3, opC kd i v n, false) :: YBA c (some (false, cap', sp'))) ⟨kI, kI, kI, kI, trivial⟩ ⟨kJ, kJ, kJ, kJ, trivial⟩ rfl rfl ⟨rfl, rfl, all_rowsJ (fun _ => rfl) rfl _ _, trivial⟩) ?_
    exact hT (some (false, cap', sp'))
   ·refine SK.all [] trivial ?_
    refine AK.blk ?_
    refine AK.weak (Weak.introN (L := [(3, .ptr 3 0), (5, .np 1000100 0), (8, .lst .any 9 (rowsO cl.objects)), (9, .int .i64 e)]) (BL := (3, opC kd i v n, false) :: YBA c (some (true, cap', sp'))) ⟨kI, kI, kI, kI, trivial⟩ ⟨kJ, kJ, kJ, kJ, trivial⟩ rfl rfl ⟨rfl, rfl, all_rowsJ (fun _ => rfl) rfl _ _, trivial⟩) ?_
    exact hT (some (true, cap', sp'))
  clear hb
  refine kW ?_
  refine kC (fun hb => ?_) fun hb => ?_
  ·clear hb
   have hJ2 := hJ.patch (by omega) (wrongC i v) n hi hv
   have hT := cw_obj2 kd i v n cl.objects (objects_all hok) (cl.patch (wrongC i v) i n v).1 (cl.patch (wrongC i v) i n v).2 hJ2.i.ok (fun h => by unfold Clu.objects; rw [patch_bad h]) (fun _ => objects_others hok hJ2.i.ok i patch_others)
   have hT := fun f => hT f E hE
   have hC := patchA cl hJ.i hi v hv hsb n (cap, sp) hf
   generalize (cl.patch (wrongC i v) i n v).1 = e at *
   generalize (cl.patch (wrongC i v) i n v).2 = c at *
   refine AK.regs ?_
   refine SK.run 7 [] trivial ?_
   refine SK.callX (fiOk c) (YA c) (fun _ => .int .i64 e) [1000100, 1900101, 1000101] hC (fun j hj => ?_) fun j hj => ?_
   ·rcases j with _ | ⟨_ | _, cap', sp'⟩
    ·exact rfl
    ·exact (by show (((true && (true && (true && ((fC c.fails sp').all (AV.inS [1000100, 1900101, 1000101]) && true)))) && true) && true) = true; rw [all_rowsJ (fun _ => rfl) rfl]; rfl)
    ·exact (by show (((true && (true && (true && ((fC c.fails sp').all (AV.inS [1000100, 1900101, 1000102]) && true)))) && true) && true) = true; rw [all_rowsJ (fun _ => rfl) rfl]; rfl)
   rcases j with _ | ⟨_ | _, cap', sp'⟩
   ·refine SK.all [] trivial ?_
    refine AK.blk ?_
    refine AK.weak (Weak.introN (L := [(3, .ptr 3 0), (5, .np 1000100 0), (8, .lst .any 9 (rowsO cl.objects)), (9, .int .i64 e)]) (BL := (3, opC kd i v n, false) :: YBA c (none)) ⟨kI, kI, kI, kI, trivial⟩ ⟨kJ, kJ, kJ, trivial⟩ rfl rfl ⟨rfl, rfl, trivial⟩) ?_
    exact hT (none)
   ·refine SK.all [] trivial ?_
    refine AK.blk ?_
    refine AK.weak (Weak.introN (L := [(3, .ptr 3 0), (5, .np 1000100 0), (8, .lst .any 9 (rowsO cl.objects)), (9, .int .i64 e)]) (BL := (3, opC kd i v n, false) :: YBA c (some (false, cap', sp'))) ⟨kI, kI, kI, kI, trivial⟩ ⟨kJ, kJ, kJ, kJ, trivial⟩ rfl rfl ⟨rfl, rfl, all_rowsJ (fun _ => rfl) rfl _ _, trivial⟩) ?_
    exact hT (some (false, cap', sp'))
   ·refine SK.all [] trivial ?_
    refine AK.blk ?_
    refine AK.weak (Weak.introN (L := [(3, .ptr 3 0), (5, .np 1000100 0), (8, .lst .any 9 (rowsO cl.objects)), (9, .int .i64 e)]) (BL := (3, opC kd i v n, false) :: YBA c (some (true, cap', sp'))) ⟨kI, kI, kI, kI, trivial⟩ ⟨kJ, kJ, kJ, kJ, trivial⟩ rfl rfl ⟨rfl, rfl, all_rowsJ (fun _ => rfl) rfl _ _, trivial⟩) ?_
    exact hT (some (true, cap', sp'))
  clear hb
  have hJ2 := hJ.delete i
  have hT := cw_obj2 kd i v n cl.objects (objects_all hok) (cl.delete i).1 (cl.delete i).2 hJ2.i.ok (fun h => by unfold Clu.objects; rw [delete_bad h]) (fun _ => objects_others hok hJ2.i.ok i delete_others)
  have hT := fun f => hT f E hE
  have hC := deleteA cl hJ.i hi (cap, sp) hf
  generalize (cl.delete i).1 = e at *
  generalize (cl.delete i).2 = c at *
  refine AK.regs ?_
  refine SK.run 3 [] trivial ?_
  refine SK.callX (fiOk c) (YA c) (fun _ => .int .i64 e) [1000100, 1900101, 1000101] hC (fun j hj => ?_) fun j hj => ?_
  ·rcases j with _ | ⟨_ | _, cap', sp'⟩
   ·exact rfl
   ·exact (by show (((true && (true && (true && ((fC c.fails sp').all (AV.inS [1000100, 1900101, 1000101]) && true)))) && true) && true) = true; rw [all_rowsJ (fun _ => rfl) rfl]; rfl)
   ·exact (by show (((true && (true && (true && ((fC c.fails sp').all (AV.inS [1000100, 1900101, 1000102]) && true)))) && true) && true) = true; rw [all_rowsJ (fun _ => rfl) rfl]; rfl)
  rcases j with _ | ⟨_ | _, cap', sp'⟩
  ·refine SK.all [] trivial ?_
   refine AK.blk ?_
   refine AK.weak (Weak.introN (L := [(3, .ptr 3 0), (5, .np 1000100 0), (8, .lst .any 9 (rowsO cl.objects)), (9, .int .i64 e)]) (BL := (3, opC kd i v n, false) :: YBA c (none)) ⟨kI, kI, kI, kI, trivial⟩ ⟨kJ, kJ, kJ, trivial⟩ rfl rfl ⟨rfl, rfl, trivial⟩) ?_
   exact hT (none)
  ·refine SK.all [] trivial ?_
   refine AK.blk ?_
   refine AK.weak (Weak.introN (L := [(3, .ptr 3 0), (5, .np 1000100 0), (8, .lst .any 9 (rowsO cl.objects)), (9, .int .i64 e)]) (BL := (3, opC kd i v n, false) :: YBA c (some (false, cap', sp'))) ⟨kI, kI, kI, kI, trivial⟩ ⟨kJ, kJ, kJ, kJ, trivial⟩ rfl rfl ⟨rfl, rfl, all_rowsJ (fun _ => rfl) rfl _ _, trivial⟩) ?_
   exact hT (some (false, cap', sp'))
  ·refine SK.all [] trivial ?_
   refine AK.blk ?_
   refine AK.weak (Weak.introN (L := [(3, .ptr 3 0), (5, .np 1000100 0), (8, .lst .any 9 (rowsO cl.objects)), (9, .int .i64 e)]) (BL := (3, opC kd i v n, false) :: YBA c (some (true, cap', sp'))) ⟨kI, kI, kI, kI, trivial⟩ ⟨kJ, kJ, kJ, kJ, trivial⟩ rfl rfl ⟨rfl, rfl, all_rowsJ (fun _ => rfl) rfl _ _, trivial⟩) ?_
   exact hT (some (true, cap', sp'))
 ·have hO := objB cl hok (cap, sp)
  have hf : cluFI cl.fails (cap, sp) := hf
  rw [b_law16_ClusterWritesD]
  simp only [sndW]
  refine kW ?_
  refine kP [.s [1000100, 1900101, 1000102] (cluO 1000100 1900101 1000102 cl (cap, sp)) (.lst .any 9 (rowsO cl.objects))] ?_ ?_
  ·exact ⟨⟨hO, (by show (((true && (true && (true && ((fC cl.fails sp).all (AV.inS [1000100, 1900101, 1000102]) && true)))) && true) && true) = true; rw [all_rowsJ (fun _ => rfl) rfl]; rfl)⟩, trivial⟩
  refine kW ?_
  refine kC (fun hb => ?_) fun hb => ?_
  ·clear hb
   have hJ2 := hJ.create (by omega) (wrongC i v) hi hv
   have hT := cw_obj2 kd i v n cl.objects (objects_all hok) (cl.create (wrongC i v) i v).1 (cl.create (wrongC i v) i v).2 hJ2.i.ok (fun h => by unfold Clu.objects; rw [create_bad h]) (fun _ => objects_others hok hJ2.i.ok i create_others)
   have hT := fun f => hT f E hE
   have hC := createB cl hJ.i hi v hv hsb (cap, sp) hf
   generalize (cl.create (wrongC i v) i v).1 = e at *
   generalize (cl.create (wrongC i v) i v).2 = c at *
   refine AK.regs ?_
   refine SK.run 5 [] trivial ?_
   refine SK.callX (fiOk c) (YC c) (fun _ => .int .i64 e) [1000100, 1900101, 1000102] hC (fun j hj => ?_) fun j hj => ?_
   ·rcases j with _ | ⟨_ | _, cap', sp'⟩
    ·exact rfl
    ·exact (by show (((true && (true && (true && ((fC c.fails sp').all (AV.inS [1000100, 1900101, 1000102]) && true)))) && true) && true) = true; rw [all_rowsJ (fun _ => rfl) rfl]; rfl)
    ·exact (by show (((true && (true && (true && ((fC c.fails sp').all (AV.inS [1000100, 1900101, 1000101]) && true)))) && true) && true) = true; rw [all_rowsJ (fun _ => rfl) rfl]; rfl)
   rcases j with _ | ⟨_ | _, cap', sp'⟩
   ·refine SK.all [] trivial ?_
    refine AK.blk ?_
    refine AK.weak (Weak.introN (L := [(3, .ptr 3 0), (5, .np 1000100 0), (8, .lst .any 9 (rowsO cl.objects)), (9, .int .i64 e)]) (BL := (3, opC kd i v n, false) :: YBA c (none)) ⟨kI, kI, kI, kI, trivial⟩ ⟨kJ, kJ, kJ, trivial⟩ rfl rfl ⟨rfl, rfl, trivial⟩) ?_
    exact hT (none)
   ·refine SK.all [] trivial ?_
    refine AK.blk ?_
    refine AK.weak (Weak.introN (L := [(3, .ptr 3 0), (5, .np 1000100 0), (8, .lst .any 9 (rowsO cl.objects)), (9, .int .i64 e)]) (BL := (3, opC kd i v n, false) :: YBA c (some (true, cap', sp'))) ⟨kI, kI, kI, kI, trivial⟩ ⟨kJ, kJ, kJ, kJ, trivial⟩ rfl rfl ⟨rfl, rfl, all_rowsJ (fun _ => rfl) rfl _ _, trivial⟩) ?_
    exact hT (some (true, cap', sp'))
   ·refine SK.all [] trivial ?_
    refine AK.blk ?_
    refine AK.weak (Weak.introN (L := [(3, .ptr 3 0), (5, .np 1000100 0), (8, .lst .any 9 (rowsO cl.objects)), (9, .int .i64 e)]) (BL := (3, opC kd i v n, false) :: YBA c (some (false, cap', sp'))) ⟨kI, kI, kI, kI, trivial⟩ ⟨kJ, kJ, kJ, kJ, trivial⟩ rfl rfl ⟨rfl, rfl, all_rowsJ (fun _ => rfl) rfl _ _, trivial⟩) ?_
    exact hT (some (false, cap', sp'))
  clear hb
  refine kW ?_
  refine kC (fun hb => ?_) fun hb => ?_
  ·clear hb
   have hJ2 := hJ.patch (by omega) (wrongC i v) n hi hv
   have hT := cw_obj2 kd i v n cl.objects (objects_all hok) (cl.patch (wrongC i v) i n v).1 (cl.patch (wrongC i v) i n v).2 hJ2.i.ok (fun h => by unfold Clu.objects; rw [patch_bad h]) (fun _ => objects_others hok hJ2.i.ok i patch_others)
   have hT := fun f => hT f E hE
   have hC := patchB cl hJ.i hi v hv hsb n (cap, sp) hf
   generalize (cl.patch (wrongC i v) i n v).1 = e at *
   generalize (cl.patch (wrongC i v) i n v).2 = c at *
   refine AK.regs ?_
   refine SK.run 7 [] trivial ?_
   refine SK.callX (fiOk c) (YC c) (fun _ => .int .i64 e) [1000100, 1900101, 1000102] hC (fun j hj => ?_) fun j hj => ?_
   ·rcases j with _ | ⟨_ | _, cap', sp'⟩
    ·exact rfl
    ·exact (by show (((true && (true && (true && ((fC c.fails sp').all (AV.inS [1000100, 1900101, 1000102]) && true)))) && true) && true) = true; rw [all_rowsJ (fun _ => rfl) rfl]; rfl)
    ·exact (by show (((true && (true && (true && ((fC c.fails sp').all (AV.inS [1000100, 1900101, 1000101]) && true)))) && true) && true) = true; rw [all_rowsJ (fun _ => rfl) rfl]; rfl)
   rcases j with _ | ⟨_ | _, cap', sp'⟩
   ·refine SK.all [] trivial ?_
    refine AK.blk ?_
    refine AK.weak (Weak.introN (L := [(3, .ptr 3 0), (5, .np 1000100 0), (8, .lst .any 9 (rowsO cl.objects)), (9, .int .i64 e)]) (BL := (3, opC kd i v n, false) :: YBA c (none)) ⟨kI, kI, kI, kI, trivial⟩ ⟨kJ, kJ, kJ, trivial⟩ rfl rfl ⟨rfl, rfl, trivial⟩) ?_
    exact hT (none)
   ·refine SK.all [] trivial ?_
    refine AK.blk ?_
    refine AK.weak (Weak.introN (L := [(3, .ptr 3 0), (5, .np 1000100 0), (8, .lst .any 9 (rowsO cl.objects)), (9, .int .i64 e)]) (BL := (3, opC kd i v n, false) :: YBA c (some (true, cap', sp'))) ⟨kI, kI, kI, kI, trivial⟩ ⟨kJ, kJ, kJ, kJ, trivial⟩ rfl rfl ⟨rfl, rfl, all_rowsJ (fun _ => rfl) rfl _ _, trivial⟩) ?_
    exact hT (some (true, cap', sp'))
   ·refine SK.all [] trivial ?_
    refine AK.blk ?_
    refine AK.weak (Weak.introN (L := [(3, .ptr 3 0), (5, .np 1000100 0), (8, .lst .any 9 (rowsO cl.objects)), (9, .int .i64 e)]) (BL := (3, opC kd i v n, false) :: YBA c (some (false, cap', sp'))) ⟨kI, kI, kI, kI, trivial⟩ ⟨kJ, kJ, kJ, kJ, trivial⟩ rfl rfl ⟨rfl, rfl, all_rowsJ (fun _ => rfl) rfl _ _, trivial⟩) ?_
    exact hT (some (false, cap', sp'))
  clear hb
  have hJ2 := hJ.delete i
  have hT := cw_obj2 kd i v n cl.objects (objects_all hok) (cl.delete i).1 (cl.delete i).2 hJ2.i.ok (fun h => by unfold Clu.objects; rw [delete_bad h]) (fun _ => objects_others hok hJ2.i.ok i delete_others)
  have hT := fun f => hT f E hE
  have hC := deleteB cl hJ.i hi (cap, sp) hf
  generalize (cl.delete i).1 = e at *
  generalize (cl.delete i).2 = c at *
  refine AK.regs ?_
  refine SK.run 3 [] trivial ?_
  refine SK.callX (fiOk c) (YC c) (fun _ => .int .i64 e) [1000100, 1900101, 1000102] hC (fun j hj => ?_) fun j hj => ?_
  ·rcases j with _ | ⟨_ | _, cap', sp'⟩
   ·exact rfl
   ·exact (by show (((true && (true && (true && ((fC c.fails sp').all (AV.inS [1000100, 1900101, 1000102]) && true)))) && true) && true) = true; rw [all_rowsJ (fun _ => rfl) rfl]; rfl)
   ·exact (by show (((true && (true && (true && ((fC c.fails sp').all (AV.inS [1000100, 1900101, 1000101]) && true)))) && true) && true) = true; rw [all_rowsJ (fun _ => rfl) rfl]; rfl)
  rcases j with _ | ⟨_ | _, cap', sp'⟩
  ·refine SK.all [] trivial ?_
   refine AK.blk ?_
   refine AK.weak (Weak.introN (L := [(3, .ptr 3 0), (5, .np 1000100 0), (8, .lst .any 9 (rowsO cl.objects)), (9, .int .i64 e)]) (BL := (3, opC kd i v n, false) :: YBA c (none)) ⟨kI, kI, kI, kI, trivial⟩ ⟨kJ, kJ, kJ, trivial⟩ rfl rfl ⟨rfl, rfl, trivial⟩) ?_
   exact hT (none)
  ·refine SK.all [] trivial ?_
   refine AK.blk ?_
   refine AK.weak (Weak.introN (L := [(3, .ptr 3 0), (5, .np 1000100 0), (8, .lst .any 9 (rowsO cl.objects)), (9, .int .i64 e)]) (BL := (3, opC kd i v n, false) :: YBA c (some (true, cap', sp'))) ⟨kI, kI, kI, kI, trivial⟩ ⟨kJ, kJ, kJ, kJ, trivial⟩ rfl rfl ⟨rfl, rfl, all_rowsJ (fun _ => rfl) rfl _ _, trivial⟩) ?_
   exact hT (some (true, cap', sp'))
  ·refine SK.all [] trivial ?_
   refine AK.blk ?_
   refine AK.weak (Weak.introN (L := [(3, .ptr 3 0), (5, .np 1000100 0), (8, .lst .any 9 (rowsO cl.objects)), (9, .int .i64 e)]) (BL := (3, opC kd i v n, false) :: YBA c (some (false, cap', sp'))) ⟨kI, kI, kI, kI, trivial⟩ ⟨kJ, kJ, kJ, kJ, trivial⟩ rfl rfl ⟨rfl, rfl, all_rowsJ (fun _ => rfl) rfl _ _, trivial⟩) ?_
   exact hT (some (false, cap', sp'))
end Go.Proofs.YtgidajjjpeboeaaGreatDoor
