/-
  The texts that the claim wants, one behind the other: part 43.
-/
import Derived.Test.YtgidajjjpeboeaaGreatDoorS42
set_option linter.unusedSimpArgs false
set_option linter.unusedVariables false
namespace Go.Proofs.YtgidajjjpeboeaaGreatDoor
open Go.RowKit
theorem heldRc : Tryz.prog.stoodInHeld 112 = false := by kernel_rfl
theorem guardRc : Tryz.prog.eqGuardType Tryz.prog.depth 112 = false := by kernel_rfl
def rcV (r : Rc) : List Value := [.string r.rel, .int .i64 r.rev, .int .i64 r.st, .int .i64 r.cmd, .string r.ch, .string r.va, .string r.ma]
theorem eqRc_any (r : Rc) : EqRun Tryz.prog true 112 (rcV r) (rcV r) true := by
 intro w x y
 constructor
 ·simp [go_sem, eqGuard, eqOp, guardRc, rcV]
 ·simp [go_sem, eqOp, heldRc, rcV, tl_iff]
theorem same_rc (r : Rc) : eqCells (rcA r) (rcA r) = true := by simp [eqCells, rcA]
theorem sameR_a (l : List Rc) (hl : l.length ≤ 1000000) : AC Tryz.prog 23 [.lst .any 7 (rowsR l), .lst .any 7 (rowsR l)] (.bool true) := by
 refine kE Tryz.func23 a_law18_same_ok a_law18_same_cb fun E hE => ?_
 refine kW ?_
 refine kC (fun hb => ?_) fun hb => ?_
 ·exfalso
  simp at hb
 clear hb
 refine kW ?_
 refine AK.loopI (fun k : Nat => (frOf [(0, .lst .any 7 (rowsR l)), (1, .lst .any 7 (rowsR l)), (12, .int .i64 (rowsR l).length), (13, .int .i64 k)], ⟨boxOf [], fun _ => 0⟩)) (fun k => k ≤ l.length) (fun k => l.length - k) 0 (Nat.zero_le _) (Weak.intro ⟨kI, kI, kI, kI, trivial⟩ trivial rfl rfl) fun k hk => ?_
 refine kW ?_
 refine kC (fun hb => ?_) fun hb => ?_
 ·have hlt : k < l.length := by simpa [rowsR_len] using hb
  obtain ⟨r, hg⟩ : ∃ x, l[k]? = some x := ⟨_, List.getElem?_eq_getElem hlt⟩
  clear hb
  refine kW ?_
  refine kP [.c (rcA r), .c (rcA r)] ?_ ?_
  ·((repeat' apply And.intro) <;> first | exact kD | (intro hgd; refine ⟨?_, kG⟩; (repeat' apply And.intro) <;> first | exact kD | skip) | skip)
   all_goals first | exact rowsR_at hg | (show EqRun _ _ _ _ _ (eqCells (rcA r) (rcA r)); rw [same_rc]; exact eqRc_any r)
  refine kC (fun hb => ?_) fun hb => ?_
  ·exfalso
   have h2 : (!eqCells (rcA r) (rcA r)) = true := hb
   rw [same_rc] at h2
   cases h2
  refine kW ?_
  exact AK.lp ⟨k + 1, by omega, Weak.intro ⟨kI, kI, kI, kU, trivial⟩ trivial rfl rfl, by omega⟩
 ·refine AK.exit rfl ?_
  refine kW ?_
  refine AK.ret ⟨_, rfl, ?_⟩
  rfl
abbrev exA : List AV := [.str ⟨#[]⟩, .int .i64 1, .int .i64 3, .int .i64 0, .str ⟨#[]⟩, .str ⟨#[]⟩, .str ⟨#[]⟩]
abbrev exB : List AV := [.str ⟨#[]⟩, .int .i64 2, .int .i64 4, .int .i64 0, .str ⟨#[]⟩, .str ⟨#[]⟩, .str ⟨#[]⟩]
theorem with_ex : AC Tryz.prog 81 [.lst .any 7 [exA, exB], .lst .any 1 (rowsJ [2, 3, 5])] (.tup [.agg exA, .bool true]) := by
 have h4 := contains_j 4 [2, 3, 5] (by decide)
 have h3 := contains_j 3 [2, 3, 5] (by decide)
 rw [show decide ((4 : Int) ∈ [(2 : Int), 3, 5]) = false from by decide] at h4
 rw [show decide ((3 : Int) ∈ [(2 : Int), 3, 5]) = true from by decide] at h3
 refine kE Tryz.func81 a_history_With_ok a_history_With_cb fun E hE => ?_
 refine kW ?_
 refine AK.loopI (fun b : Bool => (frOf [(0, .lst .any 7 [exA, exB]), (1, .lst .any 1 (rowsJ [2, 3, 5])), (4, .ptr 4 0), (6, .int .i64 (match b with | true => 0 | false => 1))], ⟨boxOf [(4, [.str ⟨#[]⟩, .int .i64 0, .int .i64 0, .int .i64 0, .str ⟨#[]⟩, .str ⟨#[]⟩, .str ⟨#[]⟩], false)], fun _ => 0⟩)) (fun _ => True) (fun b => match b with | true => 0 | false => 1) false trivial (Weak.intro ⟨kI, kI, kI, kI, trivial⟩ ⟨kJ, trivial⟩ rfl rfl) fun b _ => ?_
 cases b with
 | false =>
  refine kW ?_
  refine kCt ?_
  refine kW ?_
  refine kP [.c exB, .v (.bool false)] ?_ ?_
  ·((repeat' apply And.intro) <;> first | exact kD | (intro hgd; refine ⟨?_, kG⟩; (repeat' apply And.intro) <;> first | exact kD | skip) | skip)
   all_goals rfl
  refine kCf ?_
  refine kW ?_
  exact AK.lp ⟨true, trivial, Weak.intro ⟨kI, kI, kI, kI, trivial⟩ ⟨kJ, trivial⟩ rfl rfl, by decide⟩
 | true =>
  refine kW ?_
  refine kCt ?_
  refine kW ?_
  refine kP [.c exA, .v (.bool true)] ?_ ?_
  ·((repeat' apply And.intro) <;> first | exact kD | (intro hgd; refine ⟨?_, kG⟩; (repeat' apply And.intro) <;> first | exact kD | skip) | skip)
   all_goals rfl
  refine kCt ?_
  refine kW ?_
  refine kP [.c exA] ?_ ?_
  ·((repeat' apply And.intro) <;> first | exact kD | (intro hgd; refine ⟨?_, kG⟩; (repeat' apply And.intro) <;> first | exact kD | skip) | skip)
   all_goals rfl
  refine kW ?_
  refine AK.ret ⟨_, rfl, ?_⟩
  rfl
theorem base_ex : AC Tryz.prog 46 [.lst .any 7 [exA, exB]] (.tup [.agg exA, .bool true]) := by
 have h := with_ex
 refine kE Tryz.func46 a_history_Base_ok a_history_Base_cb fun E hE => ?_
 refine kW ?_
 refine kQ [.v (.tup [.agg exA, .bool true])] ?_
 refine kW ?_
 refine kQ [] ?_
 refine kCf ?_
 refine kW ?_
 refine AK.ret ⟨_, rfl, ?_⟩
 rfl
theorem next_ex : AC Tryz.prog 47 [.lst .any 7 [exA, exB]] (.int .i64 3) := by
 refine kE Tryz.func47 a_history_Next_ok a_history_Next_cb fun E hE => ?_
 refine kW ?_
 refine AK.loopI (fun k : Nat => (frOf [(0, .lst .any 7 [exA, exB]), (3, .int .i64 k), (6, .lst .any 7 [exA, exB]), (7, .int .i64 2), (8, .int .i64 k)], ⟨boxOf [], fun _ => 0⟩)) (fun k => k ≤ 2) (fun k => 2 - k) 0 (by omega) (Weak.intro ⟨kI, kI, kI, kI, kI, trivial⟩ trivial rfl rfl) fun k hk => ?_
 have h : k = 0 ∨ k = 1 ∨ k = 2 := by omega
 rcases h with rfl | rfl | rfl
 ·refine kW ?_
  refine kCt ?_
  refine kW ?_
  refine kP [.c exA] ?_ ?_
  ·((repeat' apply And.intro) <;> first | exact kD | (intro hgd; refine ⟨?_, kG⟩; (repeat' apply And.intro) <;> first | exact kD | skip) | skip)
   all_goals rfl
  refine kW ?_
  exact AK.lp ⟨1, by omega, Weak.intro ⟨kI, kI, kI, kI, kI, trivial⟩ trivial rfl rfl, by decide⟩
 ·refine kW ?_
  refine kCt ?_
  refine kW ?_
  refine kP [.c exB] ?_ ?_
  ·((repeat' apply And.intro) <;> first | exact kD | (intro hgd; refine ⟨?_, kG⟩; (repeat' apply And.intro) <;> first | exact kD | skip) | skip)
   all_goals rfl
  refine kW ?_
  exact AK.lp ⟨2, by omega, Weak.intro ⟨kI, kI, kI, kI, kI, trivial⟩ trivial rfl rfl, by decide⟩
 ·refine kW ?_
  refine kCf ?_
  refine AK.exit rfl ?_
  refine kW ?_
  refine AK.ret ⟨_, rfl, ?_⟩
  rfl
theorem awakeHs_a : AC Tryz.prog 17 [] (.bool true) := by
 have h1 := base_ex
 have h2 := next_ex
 refine kE Tryz.func17 a_law18_awake_ok a_law18_awake_cb fun E hE => ?_
 refine kW ?_
 refine kQ [.v (.tup [.agg exA, .bool true])] ?_
 refine kW ?_
 refine kQ [.v (.int .i64 3)] ?_
 refine kW ?_
 refine AK.ret ⟨_, rfl, ?_⟩
 rfl
end Go.Proofs.YtgidajjjpeboeaaGreatDoor
namespace Go.Proofs.YtgidajjjpeboeaaGreatDoor
open Go.RowKit Go.Maps Go.MapKept Go.ChangeMaps
theorem del_g (cl : Clu) (hk : CluK cl) {i : OId} (hi : KeyI i.k i.s i.n) : MOp Tryz.prog (.del 68 24 0) [(2900001, [mcA (rowsE cl.has)])] [.np 2900001 0, .agg (idA i)] [(2900001, [mcA (rowsE (cl.has.filter fun e => decide (e.id ≠ i)))])] (.tup []) := by
 obtain ⟨l, hl⟩ := hi
 rw [← rowsE_del]
 exact mop_del rfl Tryz.underlying68 keyedID (keys_ok hk.ids) (keyV_id i.k i.s i.n) hl
set_option maxHeartbeats 20000000 in
theorem delete_g (cl : Clu) (hk : CluK cl) {i : OId} (hi : KeyI i.k i.s i.n) :
  MS Tryz.prog 14 (cluX 2000000 2900001 cl) [.np 2000000 0, .agg (idA i)] (cluX 2000000 2900001 (cl.delete i).2) (.int .i64 (cl.delete i).1) := by
 have hwr := write_g cl hk
 have hk2 := hk.write
 have hf2 : cl.write.2.find i = cl.find i := by unfold Clu.find; rw [(write_has cl).1]
 have hh2 : cl.write.2.has = cl.has := (write_has cl).1
 unfold Clu.delete
 refine MS.enter Tryz.func14 a_cluster_Cluster_Delete_ok a_cluster_Cluster_Delete_cb (by rfl) (by rfl) fun E hE => ?_
 show AK _ _ _ [.c b_cluster_Cluster_Delete] _ _
 rw [b_cluster_Cluster_Delete]
 refine kW ?_
 refine kQ [.s [2000000, 2900001] (cluX 2000000 2900001 cl.write.2) (.int .i64 cl.write.1)] ?_
 refine kW ?_
 refine kC (fun hb => ?_) fun hb => ?_
 ·have h1 : cl.write.1 ≠ 0 := by simpa using hb
  rw [if_pos h1]
  refine kW ?_
  exact AK.ret ⟨⟨_, rfl, rfl⟩, ⟨_, rfl, rfl⟩, ⟨_, rfl, rfl⟩, trivial⟩
 have h1 : ¬ cl.write.1 ≠ 0 := by simpa using hb
 rw [if_neg h1, ← hf2, ← hh2]
 clear hb h1 hwr hf2 hh2
 generalize cl.write.2 = c2 at *
 have ha := add_a 3
 have hd := del_g c2 hk2 hi
 refine kW ?_
 refine AK.weak (Weak.introN (L := [(0, .np 2000000 0), (3, .ptr 3 0)]) (BL := [(3, idA i, false), (2000000, [.np 2900001 0, .int .i64 c2.last, .lst .any 1 (rowsJ c2.fails), .int .i64 c2.fuse, .bool c2.down, npC], false), (2900001, [mcA (rowsE c2.has)], false)]) ⟨kI, kI, trivial⟩ ⟨kJ, kJ, kJ, trivial⟩ rfl rfl ⟨rfl, rfl, trivial⟩) ?_
 cases hfd : c2.find i with
 | none =>
  have hg := getN_g c2 hk2 hi hfd
  refine AK.rega fw0 [.s [2900001] [(2900001, [mcA (rowsE c2.has)])] (.tup [.agg zE, .bool false])] (frOf [(7, .bool false)]) ⟨boxOf [(2000000, [.np 2900001 0, .int .i64 c2.last, .lst .any 1 (rowsJ c2.fails), .int .i64 c2.fuse, .bool c2.down, npC], false), (2900001, [mcA (rowsE c2.has)], false)], fun _ => 0⟩ ?_ ?_
  ·(repeat' (first | exact trivial | apply And.intro))
   all_goals first | (show _ = _; exact rfl) | (show MOp _ _ _ _ _ _; exact hg) | exact Weak.introN ⟨kI, trivial⟩ ⟨kJ, kJ, trivial⟩ rfl rfl ⟨rfl, rfl, trivial⟩
  refine kW ?_
  refine kCt ?_
  refine kW ?_
  exact AK.ret ⟨⟨_, rfl, rfl⟩, ⟨_, rfl, rfl⟩, ⟨_, rfl, rfl⟩, trivial⟩
 | some e =>
  have hg := getS_g c2 hk2 hi hfd
  refine AK.rega fw0 [.s [2900001] [(2900001, [mcA (rowsE c2.has)])] (.tup [.agg (enV e.body e.ver), .bool true])] (frOf [(0, .np 2000000 0), (3, .ptr 3 0), (7, .bool true)]) ⟨boxOf [(3, idA i, false), (2000000, [.np 2900001 0, .int .i64 c2.last, .lst .any 1 (rowsJ c2.fails), .int .i64 c2.fuse, .bool c2.down, npC], false), (2900001, [mcA (rowsE c2.has)], false)], fun _ => 0⟩ ?_ ?_
  ·(repeat' (first | exact trivial | apply And.intro))
   all_goals first | (show _ = _; exact rfl) | (show MOp _ _ _ _ _ _; exact hg) | exact Weak.introN ⟨kI, kI, kI, trivial⟩ ⟨kJ, kJ, kJ, trivial⟩ rfl rfl ⟨rfl, rfl, trivial⟩
  refine kW ?_
  refine kCf ?_
  refine kW ?_
  refine kQ [.v (.int .i64 0)] ?_
  refine kW ?_
  refine kQ [.s [2900001] [(2900001, [mcA (rowsE (c2.has.filter fun e => decide (e.id ≠ i)))])] (.tup [])] ?_
  refine kW ?_
  exact AK.ret ⟨⟨_, rfl, rfl⟩, ⟨_, rfl, rfl⟩, ⟨_, rfl, rfl⟩, trivial⟩
set_option maxHeartbeats 20000000 in
theorem edit_g (cl : Clu) (hk : CluK cl) {i : OId} (hi : KeyI i.k i.s i.n) (v : V) (hv : v.size ≤ 1000000) (wr : Int) (hw : AC Tryz.prog 42 [.agg (idA i), (vA (v))] (.int .i64 wr)) :
  MS Tryz.prog 18 (cluX 2000000 2900001 cl) [.np 2000000 0, .agg (idA i), (vA (v))] (cluX 2000000 2900001 (cl.edit wr i v).2) (.int .i64 (cl.edit wr i v).1) := by
 have hd := del_g cl hk hi
 have hp := put_g cl hk hi v hv
 unfold Clu.edit
 refine MS.enter Tryz.func18 a_cluster_Cluster_Edit_ok a_cluster_Cluster_Edit_cb (by rfl) (by rfl) fun E hE => ?_
 show AK _ _ _ [.c b_cluster_Cluster_Edit] _ _
 rw [b_cluster_Cluster_Edit]
 refine kW ?_
 refine kP [] ?_ ?_
 ·((repeat' apply And.intro) <;> first | exact kD | (intro hgd; refine ⟨?_, kG⟩; (repeat' apply And.intro) <;> first | exact kD | skip) | skip)
  ·exact fun g o => someClu false g o
 refine kCf ?_
 refine kW ?_
 refine kQ [.v (.int .i64 wr)] ?_
 refine kC (fun hb => ?_) fun hb => ?_
 ·have h1 : wr ≠ 0 := by simpa using hb
  rw [if_pos h1]
  refine kW ?_
  refine kQ [.v (.int .i64 wr)] ?_
  refine kW ?_
  exact AK.ret ⟨⟨_, rfl, rfl⟩, ⟨_, rfl, rfl⟩, ⟨_, rfl, rfl⟩, trivial⟩
 have h1 : ¬ wr ≠ 0 := by simpa using hb
 rw [if_neg h1]
 clear hb
 refine kW ?_
 refine kC (fun hb => ?_) fun hb => ?_
 ·have h2 : v.kind = 0 := by
   have : (v.kind : Int) = 0 := by simpa using hb
   omega
  rw [if_pos h2]
  refine kW ?_
  refine kQ [.s [2900001] [(2900001, [mcA (rowsE (cl.has.filter fun e => decide (e.id ≠ i)))])] (.tup [])] ?_
  refine kW ?_
  exact AK.ret ⟨⟨_, rfl, rfl⟩, ⟨_, rfl, rfl⟩, ⟨_, rfl, rfl⟩, trivial⟩
 ·have h2 : v.kind ≠ 0 := by
   have : ¬ (v.kind : Int) = 0 := by simpa using hb
   omega
  rw [if_neg h2]
  refine kW ?_
  refine kQ [.s [2000000, 2900001] (cluX 2000000 2900001 (cl.put i v)) (.tup [])] ?_
  refine kW ?_
  exact AK.ret ⟨⟨_, rfl, rfl⟩, ⟨_, rfl, rfl⟩, ⟨_, rfl, rfl⟩, trivial⟩
end Go.Proofs.YtgidajjjpeboeaaGreatDoor
namespace Go.Proofs.YtgidajjjpeboeaaGreatDoor
open Go.RowKit
theorem noRise_ge {m : List (ByteArray × V)} {k : Nat} {y z : ByteArray} {x' : V} (hz : 0 < k → m[k - 1]? = some (z, x')) : noRise (prevK m k) y = (decide ((k : Int) > 0) && !Op.bytesLess z.toList y.toList) := by
 cases k with
 | zero => simp [prevK, noRise]
 | succ k =>
  have := hz (by omega)
  simp only [Nat.add_sub_cancel] at this
  have e : decide (((k + 1 : Nat) : Int) > 0) = true := decide_eq_true (by omega)
  rw [prevK, this, e]; simp [noRise]
set_option maxRecDepth 4000 in
theorem treeParts_a (n : Nat) : ∀ v : V, v.size ≤ n → v.sb → v.size ≤ 2000000000000 → AC Tryz.prog 123 [(vA (v))] (.int .i64 v.partsC) := by
 induction n with
 | zero => intro v h; have := v.size_pos; omega
 | succ n ih =>
  intro v hn hsb hsz
  have hve := v.size_eq
  have hll := len_le_sizeL v.l
  have hlm := len_le_sizeM v.m
  refine kE Tryz.func123 a_tree_parts_ok a_tree_parts_cb fun E hE => ?_
  refine kW ?_
  refine kP [.v (.bool (!kbad v.kind v.b v.n v.s v.l.length v.m.length))] ?_ ?_
  ·((repeat' apply And.intro) <;> first | exact kD | (intro hgd; refine ⟨?_, kG⟩; (repeat' apply And.intro) <;> first | exact kD | skip) | skip)
   ·exact tbare_a v
  refine kC (fun hb => ?_) fun hb => ?_
  ·refine kW ?_
   refine AK.ret ⟨_, rfl, ?_⟩
   exact congrArg (AV.int _) (partsC_kind (by simpa using hb)).symm
  have hk0 : kbad v.kind v.b v.n v.s v.l.length v.m.length = false := by simpa using hb
  refine kW ?_
  refine kP [.v (.bool (textB v.s))] ?_ ?_
  ·((repeat' apply And.intro) <;> first | exact kD | (intro hgd; refine ⟨?_, kG⟩; (repeat' apply And.intro) <;> first | exact kD | skip) | skip)
   ·exact treeText_a _ (sb_s hsb)
  refine kC (fun hb => ?_) fun hb => ?_
  ·refine kW ?_
   refine AK.ret ⟨_, rfl, ?_⟩
   exact congrArg (AV.int _) (partsC_text hk0 (by simpa using hb)).symm
  have ht0 : textB v.s = true := by simpa using hb
  refine kW ?_
  refine AK.loopI (fun k : Nat => (frOf [(1, .ptr 1 0), (19, .lst .any 6 (rowsV v.l)), (20, .int .i64 (rowsV v.l).length), (21, .int .i64 k)], ⟨boxOf [(1, (vC (v)), false)], fun _ => 0⟩)) (fun k => k ≤ v.l.length ∧ partsL (v.l.drop k) = partsL v.l) (fun k => v.l.length - k) 0 ⟨by omega, rfl⟩ (Weak.intro ⟨kI, kI, kI, kI, trivial⟩ ⟨kJ, trivial⟩ rfl rfl) fun k ⟨hk, hr⟩ => ?_
  refine kW ?_
  refine kC (fun hb => ?_) fun hb => ?_
  ·have hlt : k < v.l.length := by simpa [rowsV_len] using hb
   obtain ⟨x, hg⟩ : ∃ x, v.l[k]? = some x := ⟨_, List.getElem?_eq_getElem hlt⟩
   have hx := sizeL_take hg
   have hx2 := sizeL_take_le v.l (k + 1)
   rw [partsL_drop hg] at hr
   refine kW ?_
   refine kP [.c (vC (x))] ?_ ?_
   ·((repeat' apply And.intro) <;> first | exact kD | (intro hgd; refine ⟨?_, kG⟩; (repeat' apply And.intro) <;> first | exact kD | skip) | skip)
    ·exact rowsV_at hg
   refine kW ?_
   refine kP [.v (.int .i64 x.partsC)] ?_ ?_
   ·((repeat' apply And.intro) <;> first | exact kD | (intro hgd; refine ⟨?_, kG⟩; (repeat' apply And.intro) <;> first | exact kD | skip) | skip)
    ·exact ih x (by omega) (sb_l hsb hg) (by omega)
   refine kW ?_
   refine kC (fun hb => ?_) fun hb => ?_
   ·have he : x.partsC ≠ 0 := by simpa using hb
    rw [if_pos he] at hr
    refine kW ?_
    refine AK.ret ⟨_, rfl, ?_⟩
    exact congrArg (AV.int _) (by rw [partsC_list hk0 ht0 (by rw [← hr]; exact he)]; exact hr)
   ·have he : ¬ x.partsC ≠ 0 := by simpa using hb
    rw [if_neg he] at hr
    refine kW ?_
    exact AK.lp ⟨k + 1, ⟨by omega, hr⟩, Weak.intro ⟨kI, kI, kI, kU, trivial⟩ ⟨kJ, trivial⟩ rfl rfl, by omega⟩
  ·have hlt : k = v.l.length := by have : v.l.length ≤ k := by simpa [rowsV_len] using hb
                                   omega
   subst hlt
   have hl0 : partsL v.l = 0 := by rw [← hr, List.drop_length]; rfl
   clear hr
   refine AK.exit rfl ?_
   refine kW ?_
   refine AK.loopI (fun k : Nat => (frOf [(1, .ptr 1 0), (32, .lst .any 7 (rowsM v.m)), (33, .int .i64 (rowsM v.m).length), (34, .int .i64 k)], ⟨boxOf [(1, (vC (v)), false)], fun _ => 0⟩)) (fun k => k ≤ v.m.length ∧ partsM (prevK v.m k) (v.m.drop k) = v.partsC) (fun k => v.m.length - k) 0 ⟨by omega, (partsC_map hk0 ht0 hl0).symm⟩ (Weak.intro ⟨kI, kI, kI, kI, trivial⟩ ⟨kJ, trivial⟩ rfl rfl) fun k ⟨hk, hr⟩ => ?_
   refine kW ?_
   refine kC (fun hb => ?_) fun hb => ?_
   ·have hlt : k < v.m.length := by simpa [rowsM_len] using hb
    obtain ⟨⟨y, x⟩, hg⟩ : ∃ x, v.m[k]? = some x := ⟨_, List.getElem?_eq_getElem hlt⟩
    obtain ⟨z, x', hz⟩ : ∃ z x', 0 < k → v.m[k - 1]? = some (z, x') := by
     by_cases h0 : 0 < k
     ·exact ⟨(v.m[k - 1]'(by omega)).1, (v.m[k - 1]'(by omega)).2, fun _ => List.getElem?_eq_getElem (by omega)⟩
     ·exact ⟨y, x, fun h => absurd h h0⟩
    have hx := sizeM_take hg
    have hx2 := sizeM_take_le v.m (k + 1)
    rw [partsM_drop hg] at hr
    refine kW ?_
    refine kP [.c (.str y :: (vC (x)))] ?_ ?_
    ·((repeat' apply And.intro) <;> first | exact kD | (intro hgd; refine ⟨?_, kG⟩; (repeat' apply And.intro) <;> first | exact kD | skip) | skip)
     ·exact rowsM_at hg
    refine kW ?_
    refine kP [.v (.bool (keyB y))] ?_ ?_
    ·((repeat' apply And.intro) <;> first | exact kD | (intro hgd; refine ⟨?_, kG⟩; (repeat' apply And.intro) <;> first | exact kD | skip) | skip)
     ·exact treeKey_a _ (sb_m hsb hg).1
    refine kC (fun hb => ?_) fun hb => ?_
    ·refine kW ?_
     refine AK.ret ⟨_, rfl, ?_⟩
     exact congrArg (AV.int _) (by rw [← hr, if_pos (by simpa using hb)])
    rw [if_neg (by simpa using hb)] at hr
    refine kW ?_
    refine kP [.c (.str z :: (vC (x')))] ?_ ?_
    ·((repeat' apply And.intro) <;> first | exact kD | (intro hgd; refine ⟨?_, kG⟩; (repeat' apply And.intro) <;> first | exact kD | skip) | skip)
     ·have h0 : 0 < k := by simpa [gd] using hgd
      rw [wrap_in (by omega) (by omega)]; omega
     ·have h0 : 0 < k := by simpa [gd] using hgd
      rw [wrap_in (by omega) (by omega), show ((k : Int) - 1).toNat = k - 1 by omega]
      exact rowsM_at (hz h0)
    have hn := noRise_ge (y := y) hz
    refine kC (fun hb => ?_) fun hb => ?_
    ·refine kW ?_
     refine AK.ret ⟨_, rfl, ?_⟩
     exact congrArg (AV.int _) (by rw [← hr, if_pos (hn.trans hb)])
    rw [if_neg (by rw [hn, hb]; decide)] at hr
    refine kW ?_
    refine kP [.v (.int .i64 x.partsC)] ?_ ?_
    ·((repeat' apply And.intro) <;> first | exact kD | (intro hgd; refine ⟨?_, kG⟩; (repeat' apply And.intro) <;> first | exact kD | skip) | skip)
     ·exact ih x (by omega) (sb_m hsb hg).2 (by omega)
    refine kW ?_
    refine kC (fun hb => ?_) fun hb => ?_
    ·have he : x.partsC ≠ 0 := by simpa using hb
     rw [if_pos he] at hr
     refine kW ?_
     refine AK.ret ⟨_, rfl, ?_⟩
     exact congrArg (AV.int _) hr
    ·have he : ¬ x.partsC ≠ 0 := by simpa using hb
     rw [if_neg he] at hr
     refine kW ?_
     exact AK.lp ⟨k + 1, ⟨by omega, hr⟩, Weak.intro ⟨kI, kI, kI, kU, trivial⟩ ⟨kJ, trivial⟩ rfl rfl, by omega⟩
   ·have hlt : k = v.m.length := by have : v.m.length ≤ k := by simpa [rowsM_len] using hb
                                    omega
    subst hlt
    refine AK.exit rfl ?_
    refine kW ?_
    refine AK.ret ⟨_, rfl, ?_⟩
    exact congrArg (AV.int _) (by rw [← hr, List.drop_length]; rfl)
theorem treeCheck_a (v : V) (hsb : v.sb) (hsz : v.size ≤ 2000000000000) : AC Tryz.prog 78 [(vA (v))] (.int .i64 v.checkC) := by
 refine kE Tryz.func78 a_tree_Check_ok a_tree_Check_cb fun E hE => ?_
 refine kW ?_
 refine kP [.v (.int .i64 v.depth)] ?_ ?_
 ·((repeat' apply And.intro) <;> first | exact kD | (intro hgd; refine ⟨?_, kG⟩; (repeat' apply And.intro) <;> first | exact kD | skip) | skip)
  ·exact treeDepth_a _ v (Nat.le_refl _) hsz
 refine kC (fun hb => ?_) fun hb => ?_
 ·have h1 : 16 < v.depth := by have : ((v.depth : Nat) : Int) > 16 := by simpa using hb
                               omega
  refine kW ?_
  refine AK.ret ⟨_, rfl, ?_⟩
  rw [V.checkC, if_pos h1]
  rfl
 have h1 : ¬ 16 < v.depth := by have : ¬ ((v.depth : Nat) : Int) > 16 := by simpa using hb
                                omega
 refine kW ?_
 refine kP [.v (.int .i64 v.size)] ?_ ?_
 ·((repeat' apply And.intro) <;> first | exact kD | (intro hgd; refine ⟨?_, kG⟩; (repeat' apply And.intro) <;> first | exact kD | skip) | skip)
  ·exact treeSize_a _ v (Nat.le_refl _) hsz
 refine kC (fun hb => ?_) fun hb => ?_
 ·have h2 : 4096 < v.size := by have : ((v.size : Nat) : Int) > 4096 := by simpa using hb
                                omega
  refine kW ?_
  refine AK.ret ⟨_, rfl, ?_⟩
  rw [V.checkC, if_neg h1, if_pos h2]
  rfl
 have h2 : ¬ 4096 < v.size := by have : ¬ ((v.size : Nat) : Int) > 4096 := by simpa using hb
                                 omega
 refine kW ?_
 refine kP [.v (.int .i64 v.partsC)] ?_ ?_
 ·((repeat' apply And.intro) <;> first | exact kD | (intro hgd; refine ⟨?_, kG⟩; (repeat' apply And.intro) <;> first | exact kD | skip) | skip)
  ·exact treeParts_a _ v (Nat.le_refl _) hsb hsz
 refine kW ?_
 refine AK.ret ⟨_, rfl, ?_⟩
 rw [V.checkC, if_neg h1, if_neg h2]
 rfl
def okId (i : OId) : Bool := wordOkB i.k && wordOkB i.s && wordOkB i.n
def wrongC (i : OId) (v : V) : Int := if okId i = true then v.checkC else 26
theorem wrong_v (i : OId) (v : V) (hi : i.k.size ≤ 140737488355328 ∧ i.s.size ≤ 140737488355328 ∧ i.n.size ≤ 140737488355328) (hsb : v.sb) (hsz : v.size ≤ 2000000000000) : AC Tryz.prog 42 [.agg [.str i.k, .str i.s, .str i.n], (vA (v))] (.int .i64 (wrongC i v)) := by
 have hr := right_a i.k i.s i.n hi.1 hi.2.1 hi.2.2
 have hc := treeCheck_a v hsb hsz
 unfold wrongC okId
 cases hb : (wordOkB i.k && wordOkB i.s && wordOkB i.n) with
 | false =>
  rw [hb] at hr
  rw [if_neg (by simp)]
  refine kE Tryz.func42 a_cluster_wrong_ok a_cluster_wrong_cb fun E hE => ?_
  refine kW ?_
  refine kQ [.v (.bool false)] ?_
  refine kCt ?_
  refine kW ?_
  refine AK.ret ⟨_, rfl, ?_⟩
  rfl
 | true =>
  rw [hb] at hr
  rw [if_pos rfl]
  refine kE Tryz.func42 a_cluster_wrong_ok a_cluster_wrong_cb fun E hE => ?_
  refine kW ?_
  refine kQ [.v (.bool true)] ?_
  refine kCf ?_
  refine kW ?_
  refine kQ [.v (.int .i64 v.checkC)] ?_
  refine kW ?_
  refine AK.ret ⟨_, rfl, ?_⟩
  rfl
structure CluG (cl : Clu) : Prop where
 k : CluK cl
 ob : ∀ e ∈ cl.has, ObOk (obE e)
theorem CluG.objects {cl : Clu} (h : CluG cl) : ∀ o ∈ cl.objects, ObOk o := fun o ho => by
 unfold Clu.objects at ho
 obtain ⟨e, he, rfl⟩ := List.mem_map.1 ((sortO_perm _).mem_iff.1 ho)
 exact h.ob e he
theorem okId_size {i : OId} (h : okId i = true) : i.k.size ≤ 64 ∧ i.s.size ≤ 64 ∧ i.n.size ≤ 64 := by
 unfold okId at h
 rw [Bool.and_eq_true, Bool.and_eq_true] at h
 have hw : ∀ s : ByteArray, wordOkB s = true → s.size ≤ 64 := fun s hs => by
  unfold wordOkB at hs
  rw [Bool.and_eq_true, Bool.and_eq_true] at hs
  exact of_decide_eq_true hs.2.2
 exact ⟨hw _ h.1.1, hw _ h.1.2, hw _ h.2⟩
theorem CluG.edit {cl : Clu} (h : CluG cl) {i : OId} {v : V} (hv : v.size ≤ 1000000) (hsb : v.sb) (hgood : v.checkC = 0 → v.good) (hl : cl.has.length < 1000) (hla : cl.last < 1000) : CluG (cl.edit (wrongC i v) i v).2 ∧ (cl.edit (wrongC i v) i v).2.has.length ≤ cl.has.length + 1 ∧ (cl.edit (wrongC i v) i v).2.last ≤ cl.last + 1 := by
 unfold Clu.edit
 by_cases hw : wrongC i v ≠ 0
 ·rw [if_pos hw]
  exact ⟨h, (by show cl.has.length ≤ cl.has.length + 1; omega), (by show cl.last ≤ cl.last + 1; omega)⟩
 rw [if_neg hw]
 have hw : wrongC i v = 0 := by omega
 have hid : okId i = true := by
  unfold wrongC at hw
  split at hw
  ·assumption
  ·cases hw
 have hc : v.checkC = 0 := by
  unfold wrongC at hw
  rwa [if_pos hid] at hw
 obtain ⟨z1, z2, z3⟩ := okId_size hid
 split
 ·refine ⟨⟨h.k.filter _, fun e he => h.ob e (List.mem_filter.1 he).1⟩, ?_, by dsimp only; omega⟩
  have := List.length_filter_le (fun e : CEnt => decide (e.id ≠ i)) cl.has
  dsimp only
  omega
 ·refine ⟨⟨h.k.put ⟨by omega, by omega, by omega⟩ hv (by omega) (by omega), ?_⟩, ?_, ?_⟩
  ·exact putE_all (P := fun e => ObOk (obE e)) h.ob ⟨hgood hc, hv, hsb, by show i.n.size ≤ _; omega⟩
  ·exact putE_len _ _
  ·show cl.last + 1 ≤ _
   omega
end Go.Proofs.YtgidajjjpeboeaaGreatDoor
namespace Go.Proofs.YtgidajjjpeboeaaGreatDoor
open Go.RowKit Go.Maps Go.MapKept Go.ChangeMaps
theorem new_m : MS Tryz.prog 8 [] [npC] [(6, cluC 1900101 0 (-1) false), (1900101, [mcA []])] (.np 6 0) := by
 have hn : MOp Tryz.prog (.new 68) [] [] [(1900101, [mcA []])] (.np 1900101 0) := mop_new rfl
 refine MS.enter Tryz.func8 a_cluster_New_ok a_cluster_New_cb (by rfl) (by rfl) fun E hE => ?_
 show AK _ _ _ [.c b_cluster_New] _ _
 rw [b_cluster_New]
 refine kW ?_
 refine kQ [.s [] [(1900101, [mcA []])] (.np 1900101 0)] ?_
 refine AK.weak (Weak.introN (L := [(2, .ptr 6 0)]) (BL := [(6, cluC 1900101 0 (-1) false, false), (1900101, [mcA []], false)]) ⟨kI, trivial⟩ ⟨⟨_, rfl, .refl _, .refl _, .any .nil 1 [], .refl _, .refl _, .refl _, trivial⟩, kJ, trivial⟩ rfl rfl ⟨rfl, trivial⟩) ?_
 exact AK.ret ⟨⟨_, rfl, rfl⟩, ⟨_, rfl, rfl⟩, ⟨_, rfl, rfl⟩, trivial⟩
def rhoC (i : Nat) : Nat := if i = 2000000 then 1000100 else if i = 1000100 then 2000000 else if i = 2900001 then 1900101 else if i = 1900101 then 2900001 else i
theorem rhoC_inj (i j : Nat) (h : rhoC i = rhoC j) : i = j := by
 unfold rhoC at h
 repeat' split at h
 all_goals omega
theorem rhoC_mp (i : Nat) : isMp (rhoC i) = isMp i := by
 unfold rhoC
 repeat' split
 all_goals first | (subst_vars; rfl) | rfl
def rhoN (i : Nat) : Nat := if i = 6 then 1000100 else if i = 1000100 then 6 else i
theorem rhoN_inj (i j : Nat) (h : rhoN i = rhoN j) : i = j := by
 unfold rhoN at h
 repeat' split at h
 all_goals omega
theorem rhoN_mp (i : Nat) : isMp (rhoN i) = isMp i := by
 unfold rhoN
 repeat' split
 all_goals first | (subst_vars; rfl) | rfl
theorem new_a : MS Tryz.prog 8 [] [npC] (cluS 1000100 1900101 [] 0 (-1) false) (.np 1000100 0) := new_m.ren rhoN rhoN_inj rhoN_mp
end Go.Proofs.YtgidajjjpeboeaaGreatDoor
namespace Go.Proofs.YtgidajjjpeboeaaGreatDoor
open Go.RowKit
theorem newX_a : MS Tryz.prog 8 [] [npC] (cluX 1000100 1900101 Clu.new) (.np 1000100 0) := new_a
theorem editX (cl : Clu) (h : CluG cl) {i : OId} (hz : i.k.size ≤ 140737488355328 ∧ i.s.size ≤ 140737488355328 ∧ i.n.size ≤ 140737488355328) (v : V) (hv : v.size ≤ 1000000) (hsb : v.sb) :
  MS Tryz.prog 18 (cluX 1000100 1900101 cl) [.np 1000100 0, .agg (idA i), (vA (v))] (cluX 1000100 1900101 (cl.edit (wrongC i v) i v).2) (.int .i64 (cl.edit (wrongC i v) i v).1) :=
 (edit_g cl h.k (keyI_of hz.1 hz.2.1 hz.2.2) v hv (wrongC i v) (wrong_v i v (by omega) hsb (by omega))).ren rhoC rhoC_inj rhoC_mp
theorem objectsX (cl : Clu) (h : CluOk cl) : MS Tryz.prog 11 (cluX 1000100 1900101 cl) [.np 1000100 0] (cluX 1000100 1900101 cl) (.lst .any 9 (rowsO cl.objects)) := (objects_m cl h).ren rhoC rhoC_inj rhoC_mp
theorem fuseX (cl : Clu) (n : Int) : MS Tryz.prog 25 (cluX 1000100 1900101 cl) [.np 1000100 0, .int .i64 n] (cluX 1000100 1900101 { cl with fuse := n }) (.tup []) := (fuse_g cl n).ren rhoC rhoC_inj rhoC_mp
theorem deleteX (cl : Clu) (hk : CluK cl) {i : OId} (hi : KeyI i.k i.s i.n) : MS Tryz.prog 14 (cluX 1000100 1900101 cl) [.np 1000100 0, .agg (idA i)] (cluX 1000100 1900101 (cl.delete i).2) (.int .i64 (cl.delete i).1) := (delete_g cl hk hi).ren rhoC rhoC_inj rhoC_mp
theorem allR_ren (cl : Clu) (rel : ByteArray) (ρ : Nat → Nat) : (allR cl rel).renR ρ = allR cl rel := by
 unfold allR
 split
 ·rfl
 ·split <;> rfl
theorem allX (cl : Clu) (h : CluG cl) (rel : ByteArray) : MS Tryz.prog 20 (cluX 1000100 1900101 cl) [.np 1000100 0, .str rel] (cluX 1000100 1900101 cl) (allR cl rel) := by
 have h := (all_m cl h.k.ok h.objects rel).ren rhoC rhoC_inj rhoC_mp
 rw [allR_ren] at h
 exact h
theorem objects0_any (w : World) : Calls Tryz.prog 11 #[.pointer none] w fun e w' => e = .returned (.slice none 0 0) ∧ Below w.heap.size w w' := by
 go_enter Tryz.func11, Tryz.ntmps11
 go_wp2_with fail
 go_ret
 exact ⟨rfl, Below.refl _ _⟩
theorem objectsNil_a : AC Tryz.prog 11 [npC] (.lst .any 9 []) := by
 refine ⟨by kernel_rfl, fun σ w vs hh hr hg => ?_⟩
 obtain ⟨v, rfl⟩ := List.length_eq_one_iff.1 hr.1
 have h1 : Rel1 σ v npC := hr.2 0 v _ rfl rfl
 cases h1
 refine (objects0_any w).mono ?_
 rintro e w' ⟨rfl, hB⟩
 exact ⟨σ, _, rfl, Ext.refl _ _, hh.on hB, hB, rel_none _ _⟩
end Go.Proofs.YtgidajjjpeboeaaGreatDoor
