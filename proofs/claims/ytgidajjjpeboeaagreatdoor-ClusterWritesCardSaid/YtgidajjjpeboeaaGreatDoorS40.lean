/-
  The texts that the claim wants, one behind the other: part 40.
-/
import Derived.Test.YtgidajjjpeboeaaGreatDoorS39
set_option linter.unusedSimpArgs false
set_option linter.unusedVariables false
namespace Go.Proofs.YtgidajjjpeboeaaGreatDoor
open Go.RowKit
theorem noRise_ge {m : List (ByteArray × V)} {k : Nat} {y z : ByteArray} {x' : V} (hz : 0 < k → m[k - 1]? = some (z, x')) : noRise (prevK m k) y = (decide ((k : Int) > 0) && !Op.bytesLess z.toList y.toList) := by
 cases k with
 | zero => simp [prevK, noRise]
 | succ k =>
  have := hz (by omega)
  simp only [Nat.add_sub_cancel] at this
  have e : decide (((k + 1 : Nat) : Int) > 0) = true := decide_eq_true (by omega)
  rw [prevK, this, e]; simp [noRise]
set_option maxRecDepth 4000 in
theorem treeParts_a (n : Nat) : ∀ v : V, v.size ≤ n → v.sb → v.size ≤ 2000000000000 → AC Tryz.prog 123 [(vA (v))] (.int .i64 v.partsC) := by
 induction n with
 | zero => intro v h; have := v.size_pos; omega
 | succ n ih =>
  intro v hn hsb hsz
  have hve := v.size_eq
  have hll := len_le_sizeL v.l
  have hlm := len_le_sizeM v.m
  refine kE Tryz.func123 a_tree_parts_ok a_tree_parts_cb fun E hE => ?_
  refine kW ?_
  refine kP [.v (.bool (!kbad v.kind v.b v.n v.s v.l.length v.m.length))] ?_ ?_
  ·((repeat' apply And.intro) <;> first | exact kD | (intro hgd; refine ⟨?_, kG⟩; (repeat' apply And.intro) <;> first | exact kD | skip) | skip)
   ·exact tbare_a v
  refine kC (fun hb => ?_) fun hb => ?_
  ·refine kW ?_
   refine AK.ret ⟨_, rfl, ?_⟩
   exact congrArg (AV.int _) (partsC_kind (by simpa using hb)).symm
  have hk0 : kbad v.kind v.b v.n v.s v.l.length v.m.length = false := by simpa using hb
  refine kW ?_
  refine kP [.v (.bool (textB v.s))] ?_ ?_
  ·((repeat' apply And.intro) <;> first | exact kD | (intro hgd; refine ⟨?_, kG⟩; (repeat' apply And.intro) <;> first | exact kD | skip) | skip)
   ·exact treeText_a _ (sb_s hsb)
  refine kC (fun hb => ?_) fun hb => ?_
  ·refine kW ?_
   refine AK.ret ⟨_, rfl, ?_⟩
   exact congrArg (AV.int _) (partsC_text hk0 (by simpa using hb)).symm
  have ht0 : textB v.s = true := by simpa using hb
  refine kW ?_
  refine AK.loopI (fun k : Nat => (frOf [(1, .ptr 1 0), (19, .lst .any 6 (rowsV v.l)), (20, .int .i64 (rowsV v.l).length), (21, .int .i64 k)], ⟨boxOf [(1, (vC (v)), false)], fun _ => 0⟩)) (fun k => k ≤ v.l.length ∧ partsL (v.l.drop k) = partsL v.l) (fun k => v.l.length - k) 0 ⟨by omega, rfl⟩ (Weak.intro ⟨kI, kI, kI, kI, trivial⟩ ⟨kJ, trivial⟩ rfl rfl) fun k ⟨hk, hr⟩ => ?_
  refine kW ?_
  refine kC (fun hb => ?_) fun hb => ?_
  ·have hlt : k < v.l.length := by simpa [rowsV_len] using hb
   obtain ⟨x, hg⟩ : ∃ x, v.l[k]? = some x := ⟨_, List.getElem?_eq_getElem hlt⟩
   have hx := sizeL_take hg
   have hx2 := sizeL_take_le v.l (k + 1)
   rw [partsL_drop hg] at hr
   refine kW ?_
   refine kP [.c (vC (x))] ?_ ?_
   ·((repeat' apply And.intro) <;> first | exact kD | (intro hgd; refine ⟨?_, kG⟩; (repeat' apply And.intro) <;> first | exact kD | skip) | skip)
    ·exact rowsV_at hg
   refine kW ?_
   refine kP [.v (.int .i64 x.partsC)] ?_ ?_
   ·((repeat' apply And.intro) <;> first | exact kD | (intro hgd; refine ⟨?_, kG⟩; (repeat' apply And.intro) <;> first | exact kD | skip) | skip)
    ·exact ih x (by omega) (sb_l hsb hg) (by omega)
   refine kW ?_
   refine kC (fun hb => ?_) fun hb => ?_
   ·have he : x.partsC ≠ 0 := by simpa using hb
    rw [if_pos he] at hr
    refine kW ?_
    refine AK.ret ⟨_, rfl, ?_⟩
    exact congrArg (AV.int _) (by rw [partsC_list hk0 ht0 (by rw [← hr]; exact he)]; exact hr)
   ·have he : ¬ x.partsC ≠ 0 := by simpa using hb
    rw [if_neg he] at hr
    refine kW ?_
    exact AK.lp ⟨k + 1, ⟨by omega, hr⟩, Weak.intro ⟨kI, kI, kI, kU, trivial⟩ ⟨kJ, trivial⟩ rfl rfl, by omega⟩
  ·have hlt : k = v.l.length := by have : v.l.length ≤ k := by simpa [rowsV_len] using hb
                                   omega
   subst hlt
   have hl0 : partsL v.l = 0 := by rw [← hr, List.drop_length]; rfl
   clear hr
   refine AK.exit rfl ?_
   refine kW ?_
   refine AK.loopI (fun k : Nat => (frOf [(1, .ptr 1 0), (32, .lst .any 7 (rowsM v.m)), (33, .int .i64 (rowsM v.m).length), (34, .int .i64 k)], ⟨boxOf [(1, (vC (v)), false)], fun _ => 0⟩)) (fun k => k ≤ v.m.length ∧ partsM (prevK v.m k) (v.m.drop k) = v.partsC) (fun k => v.m.length - k) 0 ⟨by omega, (partsC_map hk0 ht0 hl0).symm⟩ (Weak.intro ⟨kI, kI, kI, kI, trivial⟩ ⟨kJ, trivial⟩ rfl rfl) fun k ⟨hk, hr⟩ => ?_
   refine kW ?_
   refine kC (fun hb => ?_) fun hb => ?_
   ·have hlt : k < v.m.length := by simpa [rowsM_len] using hb
    obtain ⟨⟨y, x⟩, hg⟩ : ∃ x, v.m[k]? = some x := ⟨_, List.getElem?_eq_getElem hlt⟩
    obtain ⟨z, x', hz⟩ : ∃ z x', 0 < k → v.m[k - 1]? = some (z, x') := by
     by_cases h0 : 0 < k
     ·exact ⟨(v.m[k - 1]'(by omega)).1, (v.m[k - 1]'(by omega)).2, fun _ => List.getElem?_eq_getElem (by omega)⟩
     ·exact ⟨y, x, fun h => absurd h h0⟩
    have hx := sizeM_take hg
    have hx2 := sizeM_take_le v.m (k + 1)
    rw [partsM_drop hg] at hr
    refine kW ?_
    refine kP [.c (.str y :: (vC (x)))] ?_ ?_
    ·((repeat' apply And.intro) <;> first | exact kD | (intro hgd; refine ⟨?_, kG⟩; (repeat' apply And.intro) <;> first | exact kD | skip) | skip)
     ·exact rowsM_at hg
    refine kW ?_
    refine kP [.v (.bool (keyB y))] ?_ ?_
    ·((repeat' apply And.intro) <;> first | exact kD | (intro hgd; refine ⟨?_, kG⟩; (repeat' apply And.intro) <;> first | exact kD | skip) | skip)
     ·exact treeKey_a _ (sb_m hsb hg).1
    refine kC (fun hb => ?_) fun hb => ?_
    ·refine kW ?_
     refine AK.ret ⟨_, rfl, ?_⟩
     exact congrArg (AV.int _) (by rw [← hr, if_pos (by simpa using hb)])
    rw [if_neg (by simpa using hb)] at hr
    refine kW ?_
    refine kP [.c (.str z :: (vC (x')))] ?_ ?_
    ·((repeat' apply And.intro) <;> first | exact kD | (intro hgd; refine ⟨?_, kG⟩; (repeat' apply And.intro) <;> first | exact kD | skip) | skip)
     ·have h0 : 0 < k := by simpa [gd] using hgd
      rw [wrap_in (by omega) (by omega)]; omega
     ·have h0 : 0 < k := by simpa [gd] using hgd
      rw [wrap_in (by omega) (by omega), show ((k : Int) - 1).toNat = k - 1 by omega]
      exact rowsM_at (hz h0)
    have hn := noRise_ge (y := y) hz
    refine kC (fun hb => ?_) fun hb => ?_
    ·refine kW ?_
     refine AK.ret ⟨_, rfl, ?_⟩
     exact congrArg (AV.int _) (by rw [← hr, if_pos (hn.trans hb)])
    rw [if_neg (by rw [hn, hb]; decide)] at hr
    refine kW ?_
    refine kP [.v (.int .i64 x.partsC)] ?_ ?_
    ·((repeat' apply And.intro) <;> first | exact kD | (intro hgd; refine ⟨?_, kG⟩; (repeat' apply And.intro) <;> first | exact kD | skip) | skip)
     ·exact ih x (by omega) (sb_m hsb hg).2 (by omega)
    refine kW ?_
    refine kC (fun hb => ?_) fun hb => ?_
    ·have he : x.partsC ≠ 0 := by simpa using hb
     rw [if_pos he] at hr
     refine kW ?_
     refine AK.ret ⟨_, rfl, ?_⟩
     exact congrArg (AV.int _) hr
    ·have he : ¬ x.partsC ≠ 0 := by simpa using hb
     rw [if_neg he] at hr
     refine kW ?_
     exact AK.lp ⟨k + 1, ⟨by omega, hr⟩, Weak.intro ⟨kI, kI, kI, kU, trivial⟩ ⟨kJ, trivial⟩ rfl rfl, by omega⟩
   ·have hlt : k = v.m.length := by have : v.m.length ≤ k := by simpa [rowsM_len] using hb
                                    omega
    subst hlt
    refine AK.exit rfl ?_
    refine kW ?_
    refine AK.ret ⟨_, rfl, ?_⟩
    exact congrArg (AV.int _) (by rw [← hr, List.drop_length]; rfl)
theorem treeCheck_a (v : V) (hsb : v.sb) (hsz : v.size ≤ 2000000000000) : AC Tryz.prog 78 [(vA (v))] (.int .i64 v.checkC) := by
 refine kE Tryz.func78 a_tree_Check_ok a_tree_Check_cb fun E hE => ?_
 refine kW ?_
 refine kP [.v (.int .i64 v.depth)] ?_ ?_
 ·((repeat' apply And.intro) <;> first | exact kD | (intro hgd; refine ⟨?_, kG⟩; (repeat' apply And.intro) <;> first | exact kD | skip) | skip)
  ·exact treeDepth_a _ v (Nat.le_refl _) hsz
 refine kC (fun hb => ?_) fun hb => ?_
 ·have h1 : 16 < v.depth := by have : ((v.depth : Nat) : Int) > 16 := by simpa using hb
                               omega
  refine kW ?_
  refine AK.ret ⟨_, rfl, ?_⟩
  rw [V.checkC, if_pos h1]
  rfl
 have h1 : ¬ 16 < v.depth := by have : ¬ ((v.depth : Nat) : Int) > 16 := by simpa using hb
                                omega
 refine kW ?_
 refine kP [.v (.int .i64 v.size)] ?_ ?_
 ·((repeat' apply And.intro) <;> first | exact kD | (intro hgd; refine ⟨?_, kG⟩; (repeat' apply And.intro) <;> first | exact kD | skip) | skip)
  ·exact treeSize_a _ v (Nat.le_refl _) hsz
 refine kC (fun hb => ?_) fun hb => ?_
 ·have h2 : 4096 < v.size := by have : ((v.size : Nat) : Int) > 4096 := by simpa using hb
                                omega
  refine kW ?_
  refine AK.ret ⟨_, rfl, ?_⟩
  rw [V.checkC, if_neg h1, if_pos h2]
  rfl
 have h2 : ¬ 4096 < v.size := by have : ¬ ((v.size : Nat) : Int) > 4096 := by simpa using hb
                                 omega
 refine kW ?_
 refine kP [.v (.int .i64 v.partsC)] ?_ ?_
 ·((repeat' apply And.intro) <;> first | exact kD | (intro hgd; refine ⟨?_, kG⟩; (repeat' apply And.intro) <;> first | exact kD | skip) | skip)
  ·exact treeParts_a _ v (Nat.le_refl _) hsb hsz
 refine kW ?_
 refine AK.ret ⟨_, rfl, ?_⟩
 rw [V.checkC, if_neg h1, if_neg h2]
 rfl
def okId (i : OId) : Bool := wordOkB i.k && wordOkB i.s && wordOkB i.n
def wrongC (i : OId) (v : V) : Int := if okId i = true then v.checkC else 26
theorem wrong_v (i : OId) (v : V) (hi : i.k.size ≤ 140737488355328 ∧ i.s.size ≤ 140737488355328 ∧ i.n.size ≤ 140737488355328) (hsb : v.sb) (hsz : v.size ≤ 2000000000000) : AC Tryz.prog 42 [.agg [.str i.k, .str i.s, .str i.n], (vA (v))] (.int .i64 (wrongC i v)) := by
 have hr := right_a i.k i.s i.n hi.1 hi.2.1 hi.2.2
 have hc := treeCheck_a v hsb hsz
 unfold wrongC okId
 cases hb : (wordOkB i.k && wordOkB i.s && wordOkB i.n) with
 | false =>
  rw [hb] at hr
  rw [if_neg (by simp)]
  refine kE Tryz.func42 a_cluster_wrong_ok a_cluster_wrong_cb fun E hE => ?_
  refine kW ?_
  refine kQ [.v (.bool false)] ?_
  refine kCt ?_
  refine kW ?_
  refine AK.ret ⟨_, rfl, ?_⟩
  rfl
 | true =>
  rw [hb] at hr
  rw [if_pos rfl]
  refine kE Tryz.func42 a_cluster_wrong_ok a_cluster_wrong_cb fun E hE => ?_
  refine kW ?_
  refine kQ [.v (.bool true)] ?_
  refine kCf ?_
  refine kW ?_
  refine kQ [.v (.int .i64 v.checkC)] ?_
  refine kW ?_
  refine AK.ret ⟨_, rfl, ?_⟩
  rfl
end Go.Proofs.YtgidajjjpeboeaaGreatDoor
namespace Go.Proofs.YtgidajjjpeboeaaGreatDoor
open Go.RowKit Go.Maps Go.MapKept Go.ChangeMaps
abbrev qS (n0 n1 n2 n3 : Int) : List AV := [.lst .nil 10 [], .int .i64 0, .lst .nil 1 [], .int .i64 (-1), .bool false, .int .i64 n0, .int .i64 n1, .int .i64 n2, .int .i64 n3, .int .i64 0]
abbrev qA (n0 n1 n2 n3 : Int) : List AV := [.lst .any 10 [], .int .i64 0, .lst .any 1 [], .int .i64 (-1), .bool false, .int .i64 n0, .int .i64 n1, .int .i64 n2, .int .i64 n3, .int .i64 0]
theorem rNew_m : MS Tryz.prog 10 [] [] [(2, qS 0 0 0 0)] (.np 2 0) := by
 refine MS.enter Tryz.func10 a_ref16_New_ok a_ref16_New_cb (by rfl) (by rfl) fun E hE => ?_
 show AK _ _ _ [.c b_ref16_New] _ _
 rw [b_ref16_New]
 refine kW ?_
 exact AK.ret ⟨⟨_, rfl, rfl⟩, ⟨_, rfl, rfl⟩, trivial⟩
theorem rCopy_m (n0 n1 n2 n3 : Int) : MS Tryz.prog 30 [(2000002, qS n0 n1 n2 n3)] [.np 2000002 0] [(2000002, qS n0 n1 n2 n3), (3, qA n0 n1 n2 n3)] (.np 3 0) := by
 refine MS.enter Tryz.func30 a_ref16_Cluster_Copy_ok a_ref16_Cluster_Copy_cb (by rfl) (by rfl) fun E hE => ?_
 show AK _ _ _ [.c b_ref16_Cluster_Copy] _ _
 rw [b_ref16_Cluster_Copy]
 refine kW ?_
 refine kQ [] ?_
 refine kW ?_
 refine kQ [] ?_
 refine AK.weak (Weak.introN (L := [(3, .ptr 3 0)]) (BL := [(2000002, qS n0 n1 n2 n3, false), (3, qA n0 n1 n2 n3, false)]) ⟨kI, trivial⟩ ⟨kJ, ⟨_, rfl, .any _ 10 [], .refl _, .any _ 1 [], .refl _, .refl _, .refl _, .refl _, .refl _, .refl _, .refl _, trivial⟩, trivial⟩ rfl rfl ⟨rfl, trivial⟩) ?_
 refine kW ?_
 exact AK.ret ⟨⟨_, rfl, rfl⟩, ⟨_, rfl, rfl⟩, ⟨_, rfl, rfl⟩, trivial⟩
theorem rPlace_m (n0 n1 n2 n3 last : Int) (i : OId) : MS Tryz.prog 67 [(2000002, [.lst .nil 10 [], .int .i64 last, .lst .nil 1 [], .int .i64 (-1), .bool false, .int .i64 n0, .int .i64 n1, .int .i64 n2, .int .i64 n3, .int .i64 0])] [.np 2000002 0, .agg (idA i)] [(2000002, [.lst .nil 10 [], .int .i64 last, .lst .nil 1 [], .int .i64 (-1), .bool false, .int .i64 n0, .int .i64 n1, .int .i64 n2, .int .i64 n3, .int .i64 0])] (.tup [.int .i64 0, .bool false]) := by
 refine MS.enter Tryz.func67 a_ref16_Cluster_place_ok a_ref16_Cluster_place_cb (by rfl) (by rfl) fun E hE => ?_
 show AK _ _ _ [.c b_ref16_Cluster_place] _ _
 rw [b_ref16_Cluster_place]
 refine kW ?_
 refine AK.loopI (fun _ : Unit => (frOf [(0, .np 2000002 0), (3, .ptr 3 0), (6, .int .i64 0)], ⟨boxOf [(3, idA i, false), (2000002, [.lst .nil 10 [], .int .i64 last, .lst .nil 1 [], .int .i64 (-1), .bool false, .int .i64 n0, .int .i64 n1, .int .i64 n2, .int .i64 n3, .int .i64 0], false)], fun _ => 0⟩))
  (fun _ => True) (fun _ => 0) () trivial (Weak.introN ⟨kI, kI, kI, trivial⟩ ⟨kJ, kJ, trivial⟩ rfl rfl ⟨rfl, trivial⟩) fun _ _ => ?_
 refine kW ?_
 refine kCf ?_
 refine AK.exit rfl ?_
 refine kW ?_
 exact AK.ret ⟨⟨_, rfl, rfl⟩, ⟨_, rfl, rfl⟩, trivial⟩
theorem rPlaceA_m (n0 n1 n2 n3 last : Int) (i : OId) : MS Tryz.prog 67 [(2000002, [.lst .any 10 [], .int .i64 last, .lst .any 1 [], .int .i64 (-1), .bool false, .int .i64 n0, .int .i64 n1, .int .i64 n2, .int .i64 n3, .int .i64 0])] [.np 2000002 0, .agg (idA i)] [(2000002, [.lst .any 10 [], .int .i64 last, .lst .any 1 [], .int .i64 (-1), .bool false, .int .i64 n0, .int .i64 n1, .int .i64 n2, .int .i64 n3, .int .i64 0])] (.tup [.int .i64 0, .bool false]) := by
 refine MS.enter Tryz.func67 a_ref16_Cluster_place_ok a_ref16_Cluster_place_cb (by rfl) (by rfl) fun E hE => ?_
 show AK _ _ _ [.c b_ref16_Cluster_place] _ _
 rw [b_ref16_Cluster_place]
 refine kW ?_
 refine AK.loopI (fun _ : Unit => (frOf [(0, .np 2000002 0), (3, .ptr 3 0), (6, .int .i64 0)], ⟨boxOf [(3, idA i, false), (2000002, [.lst .any 10 [], .int .i64 last, .lst .any 1 [], .int .i64 (-1), .bool false, .int .i64 n0, .int .i64 n1, .int .i64 n2, .int .i64 n3, .int .i64 0], false)], fun _ => 0⟩))
  (fun _ => True) (fun _ => 0) () trivial (Weak.introN ⟨kI, kI, kI, trivial⟩ ⟨kJ, kJ, trivial⟩ rfl rfl ⟨rfl, trivial⟩) fun _ _ => ?_
 refine kW ?_
 refine kCf ?_
 refine AK.exit rfl ?_
 refine kW ?_
 exact AK.ret ⟨⟨_, rfl, rfl⟩, ⟨_, rfl, rfl⟩, trivial⟩
theorem rWrite_m (n0 n1 n2 n3 : Int) : MS Tryz.prog 66 [(2000002, qS n0 n1 n2 n3)] [.np 2000002 0] [(2000002, qS n0 n1 n2 n3)] (.int .i64 0) := by
 refine MS.enter Tryz.func66 a_ref16_Cluster_write_ok a_ref16_Cluster_write_cb (by rfl) (by rfl) fun E hE => ?_
 show AK _ _ _ [.c b_ref16_Cluster_write] _ _
 rw [b_ref16_Cluster_write]
 refine kW ?_
 refine kQ [] ?_
 refine kCf ?_
 refine kW ?_
 refine kCf ?_
 refine kW ?_
 refine AK.loopI (fun _ : Unit => (frOf [(0, .np 2000002 0), (3, .bool false), (4, .lst .nil 1 []), (5, .int .i64 0)], ⟨boxOf [(2000002, qS n0 n1 n2 n3, false)], fun _ => 0⟩))
  (fun _ => True) (fun _ => 0) () trivial (Weak.introN ⟨kI, kI, kI, kI, trivial⟩ ⟨kJ, trivial⟩ rfl rfl ⟨rfl, trivial⟩) fun _ _ => ?_
 refine kW ?_
 refine kCf ?_
 refine AK.exit rfl ?_
 refine kW ?_
 refine kCf ?_
 refine kW ?_
 exact AK.ret ⟨⟨_, rfl, rfl⟩, ⟨_, rfl, rfl⟩, trivial⟩
theorem rGone_m (n0 n1 n2 n3 : Int) (i : OId) : MS Tryz.prog 69 [(2000002, qS n0 n1 n2 n3)] [.np 2000002 0, .agg (idA i)] [] (.tup []) := by
 refine MS.enter Tryz.func69 a_ref16_Cluster_gone_ok a_ref16_Cluster_gone_cb (by rfl) (by rfl) fun E hE => ?_
 show AK _ _ _ [.c b_ref16_Cluster_gone] _ _
 rw [b_ref16_Cluster_gone]
 refine kW ?_
 refine AK.loopI (fun _ : Unit => (frOf [(0, .np 2000002 0), (3, .ptr 3 0), (4, .lst .nil 10 []), (5, .int .i64 0)], ⟨boxOf [(3, idA i, false), (2000002, qS n0 n1 n2 n3, false)], fun _ => 0⟩))
  (fun _ => True) (fun _ => 0) () trivial (Weak.introN ⟨kI, kI, kI, kI, trivial⟩ ⟨kJ, kJ, trivial⟩ rfl rfl ⟨rfl, trivial⟩) fun _ _ => ?_
 refine kW ?_
 refine kCf ?_
 refine AK.exit rfl ?_
 refine kW ?_
 show RQS _ _ _ .normal _ _
 exact ⟨⟨_, rfl, rfl⟩, trivial⟩
theorem rPut_m (n0 n1 n2 n3 : Int) (i : OId) (v : V) : MS Tryz.prog 68 [(2000002, qS n0 n1 n2 n3)] [.np 2000002 0, .agg (idA i), (vA (v))] [] (.tup []) := by
 have hp := rPlace_m n0 n1 n2 n3 (IntKind.i64.wrap (0 + 1)) i
 refine MS.enter Tryz.func68 a_ref16_Cluster_put_ok a_ref16_Cluster_put_cb (by rfl) (by rfl) fun E hE => ?_
 show AK _ _ _ [.c b_ref16_Cluster_put] _ _
 rw [b_ref16_Cluster_put]
 refine kW ?_
 refine kQ [.s [2000002] [(2000002, [.lst .nil 10 [], .int .i64 (IntKind.i64.wrap (0 + 1)), .lst .nil 1 [], .int .i64 (-1), .bool false, .int .i64 n0, .int .i64 n1, .int .i64 n2, .int .i64 n3, .int .i64 0])] (.tup [.int .i64 0, .bool false])] ?_
 refine kW ?_
 refine kP [] ?_ ?_
 ·((repeat' apply And.intro) <;> first | exact kD | (intro hgd; refine ⟨?_, kG⟩; (repeat' apply And.intro) <;> first | exact kD | skip) | skip)
  all_goals exact Nat.le_of_ble_eq_true rfl
 refine kW ?_
 refine kP [] ?_ ?_
 ·((repeat' apply And.intro) <;> first | exact kD | (intro hgd; refine ⟨?_, kG⟩; (repeat' apply And.intro) <;> first | exact kD | skip) | skip)
  all_goals exact Nat.le_of_ble_eq_true rfl
 refine kW ?_
 refine kCf ?_
 refine kW ?_
 refine kP [] ?_ ?_
 ·((repeat' apply And.intro) <;> first | exact kD | (intro hgd; refine ⟨?_, kG⟩; (repeat' apply And.intro) <;> first | exact kD | skip) | skip)
  all_goals exact Nat.le_of_ble_eq_true rfl
 show RQS _ _ _ .normal _ _
 exact ⟨⟨_, rfl, rfl⟩, trivial⟩
theorem rGet_m (n0 n1 n2 n3 : Int) (i : OId) : MS Tryz.prog 31 [(2000002, qS n0 n1 n2 n3)] [.np 2000002 0, .agg (idA i)] [] (.tup [(vA (V.null)), .int .i64 0, .int .i64 3]) := by
 have hp := rPlace_m (IntKind.i64.wrap (n0 + 1)) n1 n2 n3 0 i
 refine MS.enter Tryz.func31 a_ref16_Cluster_Get_ok a_ref16_Cluster_Get_cb (by rfl) (by rfl) fun E hE => ?_
 show AK _ _ _ [.c b_ref16_Cluster_Get] _ _
 rw [b_ref16_Cluster_Get]
 refine kW ?_
 refine kCf ?_
 refine kW ?_
 refine kQ [] ?_
 refine kW ?_
 refine kQ [.s [2000002] [(2000002, qS (IntKind.i64.wrap (n0 + 1)) n1 n2 n3)] (.tup [.int .i64 0, .bool false])] ?_
 refine kW ?_
 refine kCt ?_
 refine kW ?_
 exact AK.ret ⟨⟨_, rfl, rfl⟩, trivial⟩
theorem rGetA_m (n0 n1 n2 n3 : Int) (i : OId) : MS Tryz.prog 31 [(2000002, qA n0 n1 n2 n3)] [.np 2000002 0, .agg (idA i)] [] (.tup [(vA (V.null)), .int .i64 0, .int .i64 3]) := by
 have hp := rPlaceA_m (IntKind.i64.wrap (n0 + 1)) n1 n2 n3 0 i
 refine MS.enter Tryz.func31 a_ref16_Cluster_Get_ok a_ref16_Cluster_Get_cb (by rfl) (by rfl) fun E hE => ?_
 show AK _ _ _ [.c b_ref16_Cluster_Get] _ _
 rw [b_ref16_Cluster_Get]
 refine kW ?_
 refine kCf ?_
 refine kW ?_
 refine kQ [] ?_
 refine kW ?_
 refine kQ [.s [2000002] [(2000002, qA (IntKind.i64.wrap (n0 + 1)) n1 n2 n3)] (.tup [.int .i64 0, .bool false])] ?_
 refine kW ?_
 refine kCt ?_
 refine kW ?_
 exact AK.ret ⟨⟨_, rfl, rfl⟩, trivial⟩
theorem rWrong_a (i : OId) (v : V) (hi : i.k.size ≤ 140737488355328 ∧ i.s.size ≤ 140737488355328 ∧ i.n.size ≤ 140737488355328) (hsb : v.sb) (hsz : v.size ≤ 2000000000000) : AC Tryz.prog 65 [.agg [.str i.k, .str i.s, .str i.n], (vA (v))] (.int .i64 (wrongC i v)) := by
 have hr := refRight_a i.k i.s i.n hi.1 hi.2.1 hi.2.2
 have hc := refCheck_a v hsb hsz
 unfold wrongC okId
 cases hb : (wordOkB i.k && wordOkB i.s && wordOkB i.n) with
 | false =>
  rw [hb] at hr
  rw [if_neg (by simp)]
  refine kE Tryz.func65 a_ref16_wrong_ok a_ref16_wrong_cb fun E hE => ?_
  refine kW ?_
  refine kQ [.v (.bool false)] ?_
  refine kCt ?_
  refine kW ?_
  refine AK.ret ⟨_, rfl, ?_⟩
  rfl
 | true =>
  rw [hb] at hr
  rw [if_pos rfl]
  refine kE Tryz.func65 a_ref16_wrong_ok a_ref16_wrong_cb fun E hE => ?_
  refine kW ?_
  refine kQ [.v (.bool true)] ?_
  refine kCf ?_
  refine kW ?_
  refine kQ [.v (.int .i64 v.checkC)] ?_
  refine kW ?_
  refine AK.ret ⟨_, rfl, ?_⟩
  rfl
theorem rCreate_m (i : OId) (v : V) (hi : i.k.size ≤ 140737488355328 ∧ i.s.size ≤ 140737488355328 ∧ i.n.size ≤ 140737488355328) (hsb : v.sb) (hsz : v.size ≤ 2000000000000) : MS Tryz.prog 29 [(2000002, qS 0 0 0 0)] [.np 2000002 0, .agg (idA i), (vA (v))] [] (.int .i64 (wrongC i v)) := by
 have hw := rWrong_a i v hi hsb hsz
 have hwr := rWrite_m 0 0 0 0
 have hpl := rPlace_m 0 0 0 0 0 i
 have hpu := rPut_m 0 (IntKind.i64.wrap (0 + 1)) 0 0 i v
 refine MS.enter Tryz.func29 a_ref16_Cluster_Create_ok a_ref16_Cluster_Create_cb (by rfl) (by rfl) fun E hE => ?_
 show AK _ _ _ [.c b_ref16_Cluster_Create] _ _
 rw [b_ref16_Cluster_Create]
 refine kW ?_
 refine kQ [.v (.int .i64 (wrongC i v))] ?_
 refine kW ?_
 refine kC (fun hb => ?_) fun hb => ?_
 ·refine kW ?_
  exact AK.ret ⟨⟨_, rfl, rfl⟩, trivial⟩
 have h1 : wrongC i v = 0 := by simpa using hb
 clear hb
 rw [h1]
 refine kW ?_
 refine kQ [.s [2000002] [(2000002, qS 0 0 0 0)] (.int .i64 0)] ?_
 refine kW ?_
 refine kCf ?_
 refine kW ?_
 refine kQ [.s [2000002] [(2000002, qS 0 0 0 0)] (.tup [.int .i64 0, .bool false])] ?_
 refine kW ?_
 refine kCf ?_
 refine kW ?_
 refine kQ [] ?_
 refine kW ?_
 refine kQ [.s [2000002] [] (.tup [])] ?_
 refine kW ?_
 exact AK.ret ⟨⟨_, rfl, rfl⟩, trivial⟩
theorem rPatch_m (i : OId) (n : Int) (v : V) (hi : i.k.size ≤ 140737488355328 ∧ i.s.size ≤ 140737488355328 ∧ i.n.size ≤ 140737488355328) (hsb : v.sb) (hsz : v.size ≤ 2000000000000) : MS Tryz.prog 32 [(2000002, qS 0 0 0 0)] [.np 2000002 0, .agg (idA i), .int .i64 n, (vA (v))] [] (.int .i64 (if wrongC i v ≠ 0 then wrongC i v else 3)) := by
 have hw := rWrong_a i v hi hsb hsz
 have hwr := rWrite_m 0 0 0 0
 have hpl := rPlace_m 0 0 0 0 0 i
 refine MS.enter Tryz.func32 a_ref16_Cluster_Patch_ok a_ref16_Cluster_Patch_cb (by rfl) (by rfl) fun E hE => ?_
 show AK _ _ _ [.c b_ref16_Cluster_Patch] _ _
 rw [b_ref16_Cluster_Patch]
 refine kW ?_
 refine kQ [.v (.int .i64 (wrongC i v))] ?_
 refine kW ?_
 refine kC (fun hb => ?_) fun hb => ?_
 ·have h1 : wrongC i v ≠ 0 := by simpa using hb
  rw [if_pos h1]
  refine kW ?_
  exact AK.ret ⟨⟨_, rfl, rfl⟩, trivial⟩
 have h1 : wrongC i v = 0 := by simpa using hb
 clear hb
 rw [if_neg (by simp [h1])]
 refine kW ?_
 refine kQ [.s [2000002] [(2000002, qS 0 0 0 0)] (.int .i64 0)] ?_
 refine kW ?_
 refine kCf ?_
 refine kW ?_
 refine kQ [.s [2000002] [(2000002, qS 0 0 0 0)] (.tup [.int .i64 0, .bool false])] ?_
 refine kW ?_
 refine kCt ?_
 refine kW ?_
 exact AK.ret ⟨⟨_, rfl, rfl⟩, trivial⟩
theorem rDelete_m (i : OId) : MS Tryz.prog 33 [(2000002, qS 0 0 0 0)] [.np 2000002 0, .agg (idA i)] [] (.int .i64 3) := by
 have hwr := rWrite_m 0 0 0 0
 have hpl := rPlace_m 0 0 0 0 0 i
 refine MS.enter Tryz.func33 a_ref16_Cluster_Delete_ok a_ref16_Cluster_Delete_cb (by rfl) (by rfl) fun E hE => ?_
 show AK _ _ _ [.c b_ref16_Cluster_Delete] _ _
 rw [b_ref16_Cluster_Delete]
 refine kW ?_
 refine kQ [.s [2000002] [(2000002, qS 0 0 0 0)] (.int .i64 0)] ?_
 refine kW ?_
 refine kCf ?_
 refine kW ?_
 refine kQ [.s [2000002] [(2000002, qS 0 0 0 0)] (.tup [.int .i64 0, .bool false])] ?_
 refine kW ?_
 refine kCt ?_
 refine kW ?_
 exact AK.ret ⟨⟨_, rfl, rfl⟩, trivial⟩
theorem rEdit_m (i : OId) (v : V) (hi : i.k.size ≤ 140737488355328 ∧ i.s.size ≤ 140737488355328 ∧ i.n.size ≤ 140737488355328) (hsb : v.sb) (hsz : v.size ≤ 2000000000000) : MS Tryz.prog 34 [(2000002, qS 0 0 0 0)] [.np 2000002 0, .agg (idA i), (vA (v))] [] (.int .i64 (wrongC i v)) := by
 have hw := rWrong_a i v hi hsb hsz
 have hg := rGone_m 0 0 0 0 i
 have hpu := rPut_m 0 0 0 0 i v
 refine MS.enter Tryz.func34 a_ref16_Cluster_Edit_ok a_ref16_Cluster_Edit_cb (by rfl) (by rfl) fun E hE => ?_
 show AK _ _ _ [.c b_ref16_Cluster_Edit] _ _
 rw [b_ref16_Cluster_Edit]
 refine kW ?_
 refine kQ [.v (.int .i64 (wrongC i v))] ?_
 refine kW ?_
 refine kC (fun hb => ?_) fun hb => ?_
 ·refine kW ?_
  exact AK.ret ⟨⟨_, rfl, rfl⟩, trivial⟩
 have h1 : wrongC i v = 0 := by simpa using hb
 clear hb
 rw [h1]
 refine kW ?_
 refine kC (fun hb => ?_) fun hb => ?_
 ·refine kW ?_
  refine kQ [.s [2000002] [] (.tup [])] ?_
  refine kW ?_
  exact AK.ret ⟨⟨_, rfl, rfl⟩, trivial⟩
 ·refine kW ?_
  refine kQ [.s [2000002] [] (.tup [])] ?_
  refine kW ?_
  exact AK.ret ⟨⟨_, rfl, rfl⟩, trivial⟩
end Go.Proofs.YtgidajjjpeboeaaGreatDoor
