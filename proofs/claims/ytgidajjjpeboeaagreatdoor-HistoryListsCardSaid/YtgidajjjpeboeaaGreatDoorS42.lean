/-
  The texts that the claim wants, one behind the other: part 42.
-/
import Derived.Test.YtgidajjjpeboeaaGreatDoorS41
set_option linter.unusedSimpArgs false
set_option linter.unusedVariables false
namespace Go.Proofs.YtgidajjjpeboeaaGreatDoor
open Go.RowKit
def ObOk (o : Ob) : Prop := o.v.good ∧ o.v.size ≤ 1000000 ∧ o.v.sb ∧ o.n.size ≤ 1000000
theorem clean_noFrs {a : AV} (h : a.clean = true) : a.noFrs = true := by
 cases a <;> first | rfl | cases h
noncomputable def allR (cl : Clu) (rel : ByteArray) : AV := if cl.down = true then .tup [.lst .any 7 [], .int .i64 31] else if allOk rel cl.objects = true then .tup [.lst .any 7 (rowsR (sortR (fun r => r.rev) (recsOf rel cl.objects))), .int .i64 0] else .tup [.lst .any 7 [], .int .i64 35]
noncomputable def allJ (rel : ByteArray) (O : List Ob) (has : List CEnt) (last : Int) (fails : List Int) (fuse : Int) : Nat × Option (Nat × Nat) → Fr × St
 | (k, none) => (frOf [(1, .str rel), (6, .lst .nil 7 []), (21, .lst .any 9 (rowsO O)), (22, .int .i64 (rowsO O).length), (23, .int .i64 k)], ⟨boxOf [(2000000, [.np 2900001 0, .int .i64 last, .lst .any 1 (rowsJ fails), .int .i64 fuse, .bool false, npC], false), (2900001, [mcA (rowsE has)], false)], fun _ => 0⟩)
 | (k, some (cap, m)) => (frOf [(1, .str rel), (6, .sli 1000001 7 (recsOf rel (O.take k)).length cap), (21, .lst .any 9 (rowsO O)), (22, .int .i64 (rowsO O).length), (23, .int .i64 k)], ⟨boxOf [(2000000, [.np 2900001 0, .int .i64 last, .lst .any 1 (rowsJ fails), .int .i64 fuse, .bool false, npC], false), (2900001, [mcA (rowsE has)], false), (1000001, (rowsR (recsOf rel (O.take k))).flatten ++ List.replicate m AV.top, false)], fun _ => 0⟩)
def allI (rel : ByteArray) (O : List Ob) : Nat × Option (Nat × Nat) → Prop
 | (k, none) => k ≤ O.length ∧ allOk rel (O.take k) = true ∧ recsOf rel (O.take k) = []
 | (k, some (cap, m)) => k ≤ O.length ∧ allOk rel (O.take k) = true ∧ (recsOf rel (O.take k)).length ≤ cap ∧ ((rowsR (recsOf rel (O.take k))).flatten ++ List.replicate m AV.top).length = cap * 7
set_option maxHeartbeats 4000000 in
theorem all_m (cl : Clu) (hok : CluOk cl) (hob : ∀ o ∈ cl.objects, ObOk o) (rel : ByteArray) : MS Tryz.prog 20 (cluX 2000000 2900001 cl) [.np 2000000 0, .str rel] (cluX 2000000 2900001 cl) (allR cl rel) := by
 have hD := down_g cl
 have hO := objects_m cl hok
 unfold allR
 have hOl : cl.objects.length ≤ 1000000 := by
  unfold Clu.objects
  rw [(sortO_perm _).length_eq, List.length_map]
  exact hok.len
 have hOn : (cl.objects.map fun o => (o.k, o.s, o.n)).Nodup := by
  unfold Clu.objects
  exact ((sortO_perm _).map obId).nodup_iff.2 (obE_nd hok.nd)
 generalize cl.objects = O at *
 obtain ⟨has, last, fails, fuse, down⟩ := cl
 refine MS.enter Tryz.func20 a_history_All_ok a_history_All_cb (by rfl) (by rfl) fun E hE => ?_
 show AK _ _ _ [.c b_history_All] _ _
 rw [b_history_All]
 refine kW ?_
 refine kP [] ?_ ?_
 ·((repeat' apply And.intro) <;> first | exact kD | (intro hgd; refine ⟨?_, kG⟩; (repeat' apply And.intro) <;> first | exact kD | skip) | skip)
  ·exact fun g o => someClu false g o
 refine kCf ?_
 refine kW ?_
 refine kQ [.s [2000000, 2900001] (cluX 2000000 2900001 ⟨has, last, fails, fuse, down⟩) (.bool down)] ?_
 cases down with
 | true =>
  rw [if_pos rfl]
  refine kCt ?_
  refine kW ?_
  exact AK.ret ⟨⟨_, rfl, rfl⟩, ⟨_, rfl, rfl⟩, ⟨_, rfl, rfl⟩, trivial⟩
 | false =>
  rw [if_neg (by simp)]
  refine kCf ?_
  refine kW ?_
  refine kQ [.s [2000000, 2900001] (cluX 2000000 2900001 ⟨has, last, fails, fuse, false⟩) (.lst .any 9 (rowsO O))] ?_
  refine kW ?_
  refine AK.loopG (allJ rel O has last fails fuse) (allI rel O) (fun i => O.length - i.1) (0, none) ⟨Nat.zero_le _, rfl, rfl⟩ (Weak.introN ⟨kI, kI, kI, kI, kI, trivial⟩ ⟨kJ, kJ, trivial⟩ rfl rfl ⟨rfl, rfl, trivial⟩) fun ⟨k, fo⟩ hI => ?_
  rcases fo with _ | ⟨cap, m⟩
  ·obtain ⟨hk, hok1, hI⟩ := hI
   show AK _ _ _ _ (frOf _) _
   refine kW ?_
   refine kC (fun hb => ?_) fun hb => ?_
   ·have hlt : k < O.length := by simpa [rowsO_len] using hb
    obtain ⟨o, hg⟩ : ∃ x, O[k]? = some x := ⟨_, List.getElem?_eq_getElem hlt⟩
    have hom := hob o (List.mem_of_getElem? hg)
    have hst := recsOf_take (rel := rel) hg
    have hrl := recsOf_len rel (O.take k)
    rw [List.length_take] at hrl
    have how := owner_any o.k o.s o.n hom.2.2.2
    have hdec := decodeM_a o.k o.s o.n o.v hom.1 (by have := hom.2.1; omega) hom.2.2.1 hom.2.2.2 (decB o) decB_iff
    clear hb
    refine kW ?_
    refine kP [.c (obC o)] ?_ ?_
    ·((repeat' apply And.intro) <;> first | exact kD | (intro hgd; refine ⟨?_, kG⟩; (repeat' apply And.intro) <;> first | exact kD | skip) | skip)
     all_goals exact rowsO_at hg
    cases hp : ownP o.k o.s o.n with
    | none =>
     rw [hp] at how
     have hno : ownIs rel o = false := by unfold ownIs; rw [hp]
     rw [hno, if_neg (by simp)] at hst
     refine kW ?_
     refine kQ [.v (.tup [.str ⟨#[]⟩, .int .i64 0, .bool false])] ?_
     refine kW ?_
     refine kQ [] ?_
     refine kCt ?_
     refine AK.exit rfl ?_
     refine kW ?_
     refine AK.lp (LQ_weak (k + 1, none) ⟨by omega, by rw [allOk_take hg, hok1, hno]; rfl, by rw [hst, hI, List.nil_append]⟩ (by dsimp only; omega) ?_)
     exact Weak.introN ⟨kI, kI, kI, kI, kU, trivial⟩ ⟨kJ, kJ, trivial⟩ rfl rfl ⟨rfl, rfl, trivial⟩
    | some p =>
     rw [hp] at how
     obtain ⟨a, n⟩ := p
     obtain ⟨_, _, _, hk0, hs0, hn0⟩ := ownP_iff.1 hp
     dsimp only at hk0 hs0 hn0
     by_cases ha : a = rel
     ·have hyes : ownIs rel o = true := by unfold ownIs; rw [hp]; exact decide_eq_true ha
      rw [hyes, if_pos rfl] at hst
      refine kW ?_
      refine kQ [.v (.tup [.str a, .int .i64 n, .bool true])] ?_
      refine kS ?_
      refine AK.regC 6 39 (.when true (.bool false)) [] ?_ ?_ ?_ ?_
      ·((repeat' apply And.intro) <;> first | exact kD | (intro hgd; refine ⟨?_, kG⟩; (repeat' apply And.intro) <;> first | exact kD | skip) | skip)
      ·show AV.when true (AV.bool (!decide (a = rel))) = _
       rw [decide_eq_true ha]
       rfl
      ·((repeat' apply And.intro) <;> first | exact kD | (intro hgd; refine ⟨?_, kG⟩; (repeat' apply And.intro) <;> first | exact kD | skip) | skip)
      refine kC (fun hb => ?_) fun hb => ?_
      ·exfalso
       have hkk : o.k = ⟨#[82, 101, 108, 101, 97, 115, 101]⟩ := hk0
       simp [hkk] at hb
      clear hb
      cases hd : decB o with
      | false =>
       rw [hd, if_neg (by simp)] at hdec
       rw [if_neg (by rw [allOk_not hg hyes hd]; simp)]
       refine kW ?_
       refine kQ [.v (.tup [.agg rc0, .int .i64 35])] ?_
       refine kW ?_
       refine kCt ?_
       refine kW ?_
       exact AK.ret ⟨⟨_, rfl, rfl⟩, ⟨_, rfl, rfl⟩, ⟨_, rfl, rfl⟩, trivial⟩
      | true =>
       rw [hd, if_pos rfl] at hdec
       refine kW ?_
       refine kQ [.v (.tup [.agg (rcA (rcOf o.v)), .int .i64 0])] ?_
       refine kW ?_
       refine kCf ?_
       refine kW ?_
       refine kP [.m [] []] ?_ ?_
       ·(repeat' apply And.intro) <;> first | exact kD | exact ⟨_, rfl⟩ | exact hI.2 | exact (rowsR_ok _).2 | exact (rowsR_ok _).1 | exact (rowsR_len _).symm | (rw [rowsR_len]; simp only [List.length_cons, List.length_nil]; omega)
       refine kW ?_
       refine AK.lp (LQ_open 6 58 1000001 rfl (by omega) rfl fun cap' m' h1 h2 => ⟨(k + 1, some (cap', m')), ⟨by omega, by rw [allOk_take hg, hok1, hd]; simp, ?_⟩, by dsimp only; omega, ?_⟩)
       ·rw [hst, hI]
        exact ⟨h1, h2⟩
       ·exact Weak.introN ⟨kI, ⟨_, rfl, .of_eq (by rw [hst, hI]; rfl)⟩, kI, kI, kU, trivial⟩ ⟨kJ, kJ, ⟨_, rfl, leL_of_eq (by rw [hst, hI]; rfl)⟩, trivial⟩ rfl rfl ⟨rfl, rfl, all_rowsR (fun a h => clean_noFrs h) _ _, trivial⟩
     ·have hno : ownIs rel o = false := by unfold ownIs; rw [hp]; exact decide_eq_false ha
      rw [hno, if_neg (by simp)] at hst
      refine kW ?_
      refine kQ [.v (.tup [.str a, .int .i64 n, .bool true])] ?_
      refine kS ?_
      refine AK.regC 6 39 (.when true (.bool true)) [] ?_ ?_ ?_ ?_
      ·((repeat' apply And.intro) <;> first | exact kD | (intro hgd; refine ⟨?_, kG⟩; (repeat' apply And.intro) <;> first | exact kD | skip) | skip)
      ·show AV.when true (AV.bool (!decide (a = rel))) = _
       rw [decide_eq_false ha]
       rfl
      ·((repeat' apply And.intro) <;> first | exact kD | (intro hgd; refine ⟨?_, kG⟩; (repeat' apply And.intro) <;> first | exact kD | skip) | skip)
      refine kCt ?_
      refine AK.exit rfl ?_
      refine kW ?_
      refine AK.lp (LQ_weak (k + 1, none) ⟨by omega, by rw [allOk_take hg, hok1, hno]; rfl, by rw [hst, hI, List.nil_append]⟩ (by dsimp only; omega) ?_)
      exact Weak.introN ⟨kI, kI, kI, kI, kU, trivial⟩ ⟨kJ, kJ, trivial⟩ rfl rfl ⟨rfl, rfl, trivial⟩
   ·have hlt : k = O.length := by
     have : O.length ≤ k := by simpa [rowsO_len] using hb
     omega
    have htk : O.take k = O := by rw [hlt, List.take_length]
    clear hb
    refine AK.exit rfl ?_
    have hok2 := hok1
    rw [htk] at hok2
    rw [if_pos hok2]
    have hrn := recs_nd hOn hok2
    rw [htk] at hI
    have ho : rowsR (sortR (fun r => r.rev) (recsOf rel O)) = [] := by
     rw [hI]
     unfold sortR
     rw [List.mergeSort_nil]
     rfl
    rw [ho]
    have hsn := sortRNil_a (.fn 53 []) rfl
    refine kW ?_
    refine kQ [.v (.tup [])] ?_
    refine kW ?_
    exact AK.ret ⟨⟨_, rfl, rfl⟩, ⟨_, rfl, rfl⟩, ⟨_, rfl, rfl⟩, trivial⟩
  ·obtain ⟨hk, hok1, hI⟩ := hI
   show AK _ _ _ _ (frOf _) _
   refine kW ?_
   refine kC (fun hb => ?_) fun hb => ?_
   ·have hlt : k < O.length := by simpa [rowsO_len] using hb
    obtain ⟨o, hg⟩ : ∃ x, O[k]? = some x := ⟨_, List.getElem?_eq_getElem hlt⟩
    have hom := hob o (List.mem_of_getElem? hg)
    have hst := recsOf_take (rel := rel) hg
    have hrl := recsOf_len rel (O.take k)
    rw [List.length_take] at hrl
    have how := owner_any o.k o.s o.n hom.2.2.2
    have hdec := decodeM_a o.k o.s o.n o.v hom.1 (by have := hom.2.1; omega) hom.2.2.1 hom.2.2.2 (decB o) decB_iff
    clear hb
    refine kW ?_
    refine kP [.c (obC o)] ?_ ?_
    ·((repeat' apply And.intro) <;> first | exact kD | (intro hgd; refine ⟨?_, kG⟩; (repeat' apply And.intro) <;> first | exact kD | skip) | skip)
     all_goals exact rowsO_at hg
    cases hp : ownP o.k o.s o.n with
    | none =>
     rw [hp] at how
     have hno : ownIs rel o = false := by unfold ownIs; rw [hp]
     rw [hno, if_neg (by simp)] at hst
     refine kW ?_
     refine kQ [.v (.tup [.str ⟨#[]⟩, .int .i64 0, .bool false])] ?_
     refine kW ?_
     refine kQ [] ?_
     refine kCt ?_
     refine AK.exit rfl ?_
     refine kW ?_
     refine AK.lp (LQ_weak (k + 1, some (cap, m)) ⟨by omega, by rw [allOk_take hg, hok1, hno]; rfl, by rw [hst, List.append_nil]; exact hI⟩ (by dsimp only; omega) ?_)
     exact Weak.introN ⟨kI, ⟨_, rfl, .of_eq (by rw [hst, List.append_nil])⟩, kI, kI, kU, trivial⟩ ⟨kJ, kJ, ⟨_, rfl, leL_of_eq (by rw [hst, List.append_nil])⟩, trivial⟩ rfl rfl ⟨rfl, rfl, all_rowsR (fun a h => clean_noFrs h) _ _, trivial⟩
    | some p =>
     rw [hp] at how
     obtain ⟨a, n⟩ := p
     obtain ⟨_, _, _, hk0, hs0, hn0⟩ := ownP_iff.1 hp
     dsimp only at hk0 hs0 hn0
     by_cases ha : a = rel
     ·have hyes : ownIs rel o = true := by unfold ownIs; rw [hp]; exact decide_eq_true ha
      rw [hyes, if_pos rfl] at hst
      refine kW ?_
      refine kQ [.v (.tup [.str a, .int .i64 n, .bool true])] ?_
      refine kS ?_
      refine AK.regC 6 39 (.when true (.bool false)) [] ?_ ?_ ?_ ?_
      ·((repeat' apply And.intro) <;> first | exact kD | (intro hgd; refine ⟨?_, kG⟩; (repeat' apply And.intro) <;> first | exact kD | skip) | skip)
      ·show AV.when true (AV.bool (!decide (a = rel))) = _
       rw [decide_eq_true ha]
       rfl
      ·((repeat' apply And.intro) <;> first | exact kD | (intro hgd; refine ⟨?_, kG⟩; (repeat' apply And.intro) <;> first | exact kD | skip) | skip)
      refine kC (fun hb => ?_) fun hb => ?_
      ·exfalso
       have hkk : o.k = ⟨#[82, 101, 108, 101, 97, 115, 101]⟩ := hk0
       simp [hkk] at hb
      clear hb
      cases hd : decB o with
      | false =>
       rw [hd, if_neg (by simp)] at hdec
       rw [if_neg (by rw [allOk_not hg hyes hd]; simp)]
       refine kW ?_
       refine kQ [.v (.tup [.agg rc0, .int .i64 35])] ?_
       refine kW ?_
       refine kCt ?_
       refine kW ?_
       exact AK.ret ⟨⟨_, rfl, rfl⟩, ⟨_, rfl, rfl⟩, ⟨_, rfl, rfl⟩, trivial⟩
      | true =>
       rw [hd, if_pos rfl] at hdec
       refine kW ?_
       refine kQ [.v (.tup [.agg (rcA (rcOf o.v)), .int .i64 0])] ?_
       refine kW ?_
       refine kCf ?_
       refine kW ?_
       refine kP [.m (rowsR (recsOf rel (O.take k))) []] ?_ ?_
       ·(repeat' apply And.intro) <;> first | exact kD | exact ⟨_, rfl⟩ | exact hI.2 | exact (rowsR_ok _).2 | exact (rowsR_ok _).1 | exact (rowsR_len _).symm | (rw [rowsR_len]; simp only [List.length_cons, List.length_nil]; omega)
       refine kW ?_
       have hsn : rowsR (recsOf rel (O.take k)) ++ [rcA (rcOf o.v)] = rowsR (recsOf rel (O.take (k + 1))) := by rw [hst, rowsR_snoc]
       refine AK.lp (LQ_open 6 58 1000001 rfl (by omega) rfl fun cap' m' h1 h2 => ⟨(k + 1, some (cap', m')), ⟨by omega, by rw [allOk_take hg, hok1, hd]; simp, ?_⟩, by dsimp only; omega, ?_⟩)
       ·have h1' : (rowsR (recsOf rel (O.take k)) ++ [rcA (rcOf o.v)]).length ≤ cap' := h1
        have h2' : ((rowsR (recsOf rel (O.take k)) ++ [rcA (rcOf o.v)]).flatten ++ List.replicate m' AV.top).length = cap' * 7 := h2
        rw [hsn] at h1' h2'
        rw [rowsR_len] at h1'
        exact ⟨h1', h2'⟩
       ·refine Weak.introN ⟨kI, ⟨_, rfl, .of_eq ?_⟩, kI, kI, kU, trivial⟩ ⟨kJ, kJ, ⟨_, rfl, leL_of_eq ?_⟩, trivial⟩ rfl rfl ⟨rfl, rfl, all_rowsR (fun a h => clean_noFrs h) _ _, trivial⟩
        ·show AV.sli 1000001 7 (rowsR (recsOf rel (O.take k)) ++ [rcA (rcOf o.v)]).length cap' = _
         rw [hsn, rowsR_len]
        ·show (rowsR (recsOf rel (O.take k)) ++ [rcA (rcOf o.v)]).flatten ++ List.replicate m' AV.top = _
         rw [hsn]
     ·have hno : ownIs rel o = false := by unfold ownIs; rw [hp]; exact decide_eq_false ha
      rw [hno, if_neg (by simp)] at hst
      refine kW ?_
      refine kQ [.v (.tup [.str a, .int .i64 n, .bool true])] ?_
      refine kS ?_
      refine AK.regC 6 39 (.when true (.bool true)) [] ?_ ?_ ?_ ?_
      ·((repeat' apply And.intro) <;> first | exact kD | (intro hgd; refine ⟨?_, kG⟩; (repeat' apply And.intro) <;> first | exact kD | skip) | skip)
      ·show AV.when true (AV.bool (!decide (a = rel))) = _
       rw [decide_eq_false ha]
       rfl
      ·((repeat' apply And.intro) <;> first | exact kD | (intro hgd; refine ⟨?_, kG⟩; (repeat' apply And.intro) <;> first | exact kD | skip) | skip)
      refine kCt ?_
      refine AK.exit rfl ?_
      refine kW ?_
      refine AK.lp (LQ_weak (k + 1, some (cap, m)) ⟨by omega, by rw [allOk_take hg, hok1, hno]; rfl, by rw [hst, List.append_nil]; exact hI⟩ (by dsimp only; omega) ?_)
      exact Weak.introN ⟨kI, ⟨_, rfl, .of_eq (by rw [hst, List.append_nil])⟩, kI, kI, kU, trivial⟩ ⟨kJ, kJ, ⟨_, rfl, leL_of_eq (by rw [hst, List.append_nil])⟩, trivial⟩ rfl rfl ⟨rfl, rfl, all_rowsR (fun a h => clean_noFrs h) _ _, trivial⟩
   ·have hlt : k = O.length := by
     have : O.length ≤ k := by simpa [rowsO_len] using hb
     omega
    have htk : O.take k = O := by rw [hlt, List.take_length]
    clear hb
    refine AK.exit rfl ?_
    have hok2 := hok1
    rw [htk] at hok2
    rw [if_pos hok2]
    have hrn := recs_nd hOn hok2
    rw [← htk] at hrn ⊢
    have hrl := recsOf_len rel (O.take k)
    rw [List.length_take] at hrl
    generalize hR : recsOf rel (O.take k) = R at *
    have hS := sortRc_mr R hrn (by omega) cap m hI.1 hI.2
    have hsl : (sortR (fun r : Rc => r.rev) R).length = R.length := (sortR_perm _ R).length_eq
    have hfl : ∀ l : List Rc, (rowsR l).flatten.length = l.length * 7 := fun l => by rw [(rowsR_ok l).flat.1, rowsR_len]
    have hC := RowCs.mk_ (rowsR_ok (sortR (fun r : Rc => r.rev) R)) (cap := cap) (m := m) (by rw [rowsR_len, hsl]; exact hI.1) (by
     have := hI.2
     rw [List.length_append, hfl] at this
     rw [List.length_append, hfl, hsl]
     exact this)
    have hS2 : MS Tryz.prog 52 [(1000001, ((rowsR R).flatten ++ List.replicate m AV.top).map AV.told)] [.sli 1000001 7 R.length cap, .fn 53 []] [(1000001, (rowsR (sortR (fun r => r.rev) R)).flatten ++ List.replicate m AV.top)] (.tup []) := by
     rw [map_rowsR (fun a h => clean_told h)]
     exact hS
    have hok := okS_row (all_rowsR (fun a h => clean_inS h [1000001]) (sortR (fun r : Rc => r.rev) R) m)
    refine AK.weak (Weak.introN (L := [(6, .sli 1000001 7 R.length cap)]) (BL := [(2000000, [.np 2900001 0, .int .i64 last, .lst .any 1 (rowsJ fails), .int .i64 fuse, .bool false, npC], false), (2900001, [mcA (rowsE has)], false), (1000001, (rowsR R).flatten ++ List.replicate m AV.top, false)]) ⟨⟨_, rfl, .of_eq (by rw [htk, hR])⟩, trivial⟩ ⟨kJ, kJ, ⟨_, rfl, leL_of_eq (by rw [htk, hR])⟩, trivial⟩ rfl rfl ⟨rfl, rfl, all_rowsR (fun a h => clean_noFrs h) _ _, trivial⟩) ?_
    refine kW ?_
    refine kP [.s [1000001] [(1000001, (rowsR (sortR (fun r => r.rev) R)).flatten ++ List.replicate m AV.top)] (.tup [])] ?_ ?_
    ·(repeat' apply And.intro) <;> first | exact hS2 | exact hok _ | exact kD
    refine kW ?_
    refine AK.fz 1000001 rfl ?_
    refine AK.weak (Weak.introN (L := [(4, .lst .any 7 (rowsR (sortR (fun r => r.rev) R))), (5, .int .i64 0)]) (BL := [(2000000, [.np 2900001 0, .int .i64 last, .lst .any 1 (rowsJ fails), .int .i64 fuse, .bool false, npC], false), (2900001, [mcA (rowsE has)], false)]) ⟨⟨_, rfl, ?_⟩, kI, trivial⟩ ⟨kJ, kJ, trivial⟩ rfl rfl ⟨rfl, rfl, trivial⟩) ?_
    ·show AVle _ (.sli 1000001 7 R.length cap) _
     have hn : R.length = (rowsR (sortR (fun r : Rc => r.rev) R)).length := by rw [rowsR_len, hsl]
     rw [hn]
     exact .one (hC.le rfl)
    exact AK.ret ⟨⟨_, rfl, rfl⟩, ⟨_, rfl, rfl⟩, ⟨_, rfl, rfl⟩, trivial⟩
theorem allNil_a (rel : ByteArray) : AC Tryz.prog 20 [npC, .str rel] (.tup [.lst .any 7 [], .int .i64 2]) := by
 refine kE Tryz.func20 a_history_All_ok a_history_All_cb fun E hE => ?_
 refine kW ?_
 refine kP [] ?_ ?_
 ·((repeat' apply And.intro) <;> first | exact kD | (intro hgd; refine ⟨?_, kG⟩; (repeat' apply And.intro) <;> first | exact kD | skip) | skip)
  ·exact nilClu false
 refine kCt ?_
 refine kW ?_
 refine AK.ret ⟨_, rfl, ?_⟩
 rfl
def insF (out : List Rc) (r : Rc) : List Rc := insR (fun r : Rc => r.rev) out r
theorem place_lt {out : List Rc} {r x : Rc} {a : Nat} (ha : a < placeR (fun r : Rc => r.rev) out r) (hx : out[a]? = some x) : x.rev < r.rev := by
 have h1 : (out.takeWhile fun x => decide (x.rev < r.rev))[a]? = some x := by
  rw [← take_place (fun r : Rc => r.rev), List.getElem?_take_of_lt ha]
  exact hx
 have := List.all_eq_true.1 (List.all_takeWhile (l := out) (p := fun x : Rc => decide (x.rev < r.rev))) x (List.mem_of_getElem? h1)
 simpa using this
theorem place_eq {out : List Rc} {r x : Rc} (hx : out[placeR (fun r : Rc => r.rev) out r]? = some x) : ¬ x.rev < r.rev := by
 have h1 : out.drop (placeR (fun r : Rc => r.rev) out r) = x :: out.drop (placeR (fun r : Rc => r.rev) out r + 1) := by
  obtain ⟨hk, e⟩ := List.getElem?_eq_some_iff.1 hx
  rw [List.drop_eq_getElem_cons hk, e]
 rw [drop_place] at h1
 have := List.head_dropWhile_not (p := fun x : Rc => decide (x.rev < r.rev)) (l := out) (by rw [h1]; simp)
 simp only [h1, List.head_cons] at this
 simpa using this
theorem ins_rows {out : List Rc} {R : Rc} {a : Nat} (h : a = placeR (fun r : Rc => r.rev) out R) : (([] ++ List.drop (Int.toNat 0) (List.take (a : Int).toNat (rowsR out))) ++ [rcA R]) ++ List.drop (a : Int).toNat (List.take ((rowsR out).length : Int).toNat (rowsR out)) = rowsR (insF out R) := by
 subst h
 rw [Int.toNat_natCast, Int.toNat_natCast, List.take_length]
 unfold insF insR rowsR
 rw [List.map_append, List.map_cons, List.map_take, List.map_drop]
 simp
set_option maxHeartbeats 4000000 in
theorem refAll_a (O : List Ob) (hob : ∀ o ∈ O, ObOk o) (hOl : O.length ≤ 1000000) (rel : ByteArray) : AC Tryz.prog 22 [.lst .any 9 (rowsO O), .str rel] (if allOk rel O = true then .tup [.lst .any 7 (rowsR ((recsOf rel O).foldl insF [])), .bool true] else .tup [.lst .any 7 [], .bool false]) := by
 refine kE Tryz.func22 a_ref18_All_ok a_ref18_All_cb fun E hE => ?_
 refine kW ?_
 refine AK.loopI (fun i : Nat × (Nat → Nat) => (frOf [(0, .lst .any 9 (rowsO O)), (1, .str rel), (6, .lst (.own 68 (i.2 68)) 7 (rowsR ((recsOf rel (O.take i.1)).foldl insF []))), (7, .int .i64 i.1)], ⟨boxOf [], i.2⟩)) (fun i => i.1 ≤ O.length ∧ allOk rel (O.take i.1) = true) (fun i => O.length - i.1) (0, fun _ => 0) ⟨Nat.zero_le _, rfl⟩ (Weak.intro ⟨kI, kI, ⟨_, rfl, .one (.own _ _ _ _)⟩, kI, trivial⟩ trivial rfl rfl) fun ⟨k, r⟩ hk => ?_
 dsimp only at hk
 obtain ⟨hk, hok1⟩ := hk
 refine kW ?_
 refine kC (fun hb => ?_) fun hb => ?_
 ·have hlt : k < O.length := by simpa [rowsO_len] using hb
  obtain ⟨o, hg⟩ : ∃ x, O[k]? = some x := ⟨_, List.getElem?_eq_getElem hlt⟩
  have hom := hob o (List.mem_of_getElem? hg)
  have hst := recsOf_take (rel := rel) hg
  have hrl := recsOf_len rel (O.take k)
  rw [List.length_take] at hrl
  have how := refOwner_a o.k o.s o.n hom.2.2.2
  have hdec := refDecodeM_a o.k o.s o.n o.v (by have := hom.2.1; omega) hom.2.2.1 (decB o) decB_iff
  have hol : ((recsOf rel (O.take k)).foldl insF []).length = (recsOf rel (O.take k)).length := by
   have : ∀ (l out : List Rc), (l.foldl insF out).length = out.length + l.length := by
    intro l
    induction l with
    | nil => intro out; simp
    | cons x l ih => intro out; rw [List.foldl_cons, ih, insF, insR_len, List.length_cons]; omega
   simpa using this (recsOf rel (O.take k)) []
  clear hb
  cases hp : ownP o.k o.s o.n with
  | none =>
   rw [hp] at how
   have hno : ownIs rel o = false := by unfold ownIs; rw [hp]
   rw [hno, if_neg (by simp), List.append_nil] at hst
   refine kW ?_
   refine kP [.c (obC o), .v (.tup [.str ⟨#[]⟩, .int .i64 0, .bool false])] ?_ ?_
   ·((repeat' apply And.intro) <;> first | exact kD | (intro hgd; refine ⟨?_, kG⟩; (repeat' apply And.intro) <;> first | exact kD | skip) | skip)
    all_goals exact rowsO_at hg
   refine kW ?_
   refine kQ [] ?_
   refine kCt ?_
   refine AK.exit rfl ?_
   refine kW ?_
   exact AK.lp ⟨(k + 1, r), ⟨by dsimp only; omega, by rw [allOk_take hg, hok1, hno]; rfl⟩, Weak.intro ⟨kI, kI, ⟨_, rfl, .of_eq (by rw [hst])⟩, kU, trivial⟩ trivial rfl rfl, by dsimp only; omega⟩
  | some p =>
   rw [hp] at how
   obtain ⟨a, n⟩ := p
   by_cases ha : a = rel
   ·have hyes : ownIs rel o = true := by unfold ownIs; rw [hp]; exact decide_eq_true ha
    rw [hyes, if_pos rfl] at hst
    refine kW ?_
    refine kP [.c (obC o), .v (.tup [.str a, .int .i64 n, .bool true])] ?_ ?_
    ·((repeat' apply And.intro) <;> first | exact kD | (intro hgd; refine ⟨?_, kG⟩; (repeat' apply And.intro) <;> first | exact kD | skip) | skip)
     all_goals exact rowsO_at hg
    refine kS (kS ?_)
    refine AK.regC 6 36 (.when true (.bool false)) [] ?_ ?_ ?_ ?_
    ·((repeat' apply And.intro) <;> first | exact kD | (intro hgd; refine ⟨?_, kG⟩; (repeat' apply And.intro) <;> first | exact kD | skip) | skip)
    ·show AV.when true (AV.bool (!decide (a = rel))) = _
     rw [decide_eq_true ha]
     rfl
    ·((repeat' apply And.intro) <;> first | exact kD | (intro hgd; refine ⟨?_, kG⟩; (repeat' apply And.intro) <;> first | exact kD | skip) | skip)
    refine kCf ?_
    refine kW ?_
    cases hd : decB o with
    | false =>
     rw [hd, if_neg (by simp)] at hdec
     rw [if_neg (by rw [allOk_not hg hyes hd]; simp)]
     refine kW ?_
     refine kP [.c (obC o), .v (.tup [.agg rc0, .bool false])] ?_ ?_
     ·((repeat' apply And.intro) <;> first | exact kD | (intro hgd; refine ⟨?_, kG⟩; (repeat' apply And.intro) <;> first | exact kD | skip) | skip)
      all_goals exact rowsO_at hg
     refine kW ?_
     refine kCt ?_
     refine kW ?_
     refine AK.ret ⟨_, rfl, ?_⟩
     rfl
    | true =>
     rw [hd, if_pos rfl] at hdec
     refine kW ?_
     refine kP [.c (obC o), .v (.tup [.agg (rcA (rcOf o.v)), .bool true])] ?_ ?_
     ·((repeat' apply And.intro) <;> first | exact kD | (intro hgd; refine ⟨?_, kG⟩; (repeat' apply And.intro) <;> first | exact kD | skip) | skip)
      all_goals exact rowsO_at hg
     refine kW ?_
     refine kCf ?_
     refine kW ?_
     have hfin : (recsOf rel (O.take (k + 1))).foldl insF [] = insF ((recsOf rel (O.take k)).foldl insF []) (rcOf o.v) := by
      rw [hst, List.foldl_append]
      rfl
     generalize hR : rcOf o.v = R at *
     generalize hU : (recsOf rel (O.take k)).foldl insF [] = out at *
     have hpl := placeR_le (fun r : Rc => r.rev) out R
     refine AK.loopI (fun a : Nat => (frOf [(0, .lst .any 9 (rowsO O)), (1, .str rel), (6, .lst (.own 68 (r 68)) 7 (rowsR out)), (7, .int .i64 k), (11, .ptr 11 0), (13, .int .i64 a)], ⟨boxOf [(11, rcA R, false)], r⟩)) (fun a => a ≤ placeR (fun r : Rc => r.rev) out R) (fun a => out.length - a) 0 (Nat.zero_le _) (Weak.intro ⟨kI, kI, kI, kI, kI, kI, trivial⟩ ⟨kJ, trivial⟩ rfl rfl) fun a ha2 => ?_
     refine kW ?_
     refine kP [.c (rcA (out.getD a R))] ?_ ?_
     ·((repeat' apply And.intro) <;> first | exact kD | (intro hgd; refine ⟨?_, kG⟩; (repeat' apply And.intro) <;> first | exact kD | skip) | skip)
      have hgd2 : decide ((a : Int) < (rowsR out).length) = true := hgd
      have hlt2 : a < out.length := by simpa [rowsR_len] using hgd2
      show (rowsR out)[a]? = _
      refine rowsR_at ?_
      rw [List.getD_eq_getElem?_getD, List.getElem?_eq_getElem hlt2]
      rfl
     refine kC (fun hb => ?_) fun hb => ?_
     ·have hb2 : a < out.length ∧ (out.getD a R).rev < R.rev := by simpa [rowsR_len] using hb
      have hga : out[a]? = some (out.getD a R) := by
       rw [List.getD_eq_getElem?_getD, List.getElem?_eq_getElem hb2.1]
       rfl
      have hne : a ≠ placeR (fun r : Rc => r.rev) out R := fun e => by
       rw [e] at hga hb2
       exact place_eq hga hb2.2
      refine kW ?_
      exact AK.lp ⟨a + 1, by omega, Weak.intro ⟨kI, kI, kI, kI, kI, kU, trivial⟩ ⟨kJ, trivial⟩ rfl rfl, by omega⟩
     ·have hae : a = placeR (fun r : Rc => r.rev) out R := by
       by_cases hlt3 : a < placeR (fun r : Rc => r.rev) out R
       ·exfalso
        have hlt2 : a < out.length := by omega
        have hga : out[a]? = some (out.getD a R) := by
         rw [List.getD_eq_getElem?_getD, List.getElem?_eq_getElem hlt2]
         rfl
        have h1 := place_lt hlt3 hga
        have : (decide ((a : Int) < (rowsR out).length) && decide ((out.getD a R).rev < R.rev)) = true := by
         rw [Bool.and_eq_true, decide_eq_true_iff, decide_eq_true_iff, rowsR_len]
         exact ⟨by omega, h1⟩
        rw [this] at hb
        cases hb
       ·omega
      clear hb
      have hz := rowsR_len out
      refine AK.exit rfl ?_
      refine kW ?_
      refine kP [] ?_ ?_
      ·((repeat' apply And.intro) <;> first | exact kD | (intro hgd; refine ⟨?_, kG⟩; (repeat' apply And.intro) <;> first | exact kD | skip) | skip)
       all_goals simp only [List.length_append, List.length_drop, List.length_take, List.length_nil, List.length_cons]
       all_goals omega
      refine kW ?_
      refine kP [] ?_ ?_
      ·((repeat' apply And.intro) <;> first | exact kD | (intro hgd; refine ⟨?_, kG⟩; (repeat' apply And.intro) <;> first | exact kD | skip) | skip)
       all_goals simp only [List.length_append, List.length_drop, List.length_take, List.length_nil, List.length_cons]
       all_goals omega
      refine kW ?_
      refine kP [] ?_ ?_
      ·((repeat' apply And.intro) <;> first | exact kD | (intro hgd; refine ⟨?_, kG⟩; (repeat' apply And.intro) <;> first | exact kD | skip) | skip)
       all_goals simp only [List.length_append, List.length_drop, List.length_take, List.length_nil, List.length_cons]
       all_goals omega
      refine kW ?_
      refine AK.lp ⟨(k + 1, _), ⟨by dsimp only; omega, by rw [allOk_take hg, hok1, hd]; simp⟩, Weak.intro ⟨kI, kI, ⟨_, rfl, ?_⟩, kU, trivial⟩ trivial rfl rfl, by dsimp only; omega⟩
      refine .of_eq ?_
      dsimp only
      rw [hfin]
      exact congrArg (AV.lst _ 7) (ins_rows hae)
   ·have hno : ownIs rel o = false := by unfold ownIs; rw [hp]; exact decide_eq_false ha
    rw [hno, if_neg (by simp), List.append_nil] at hst
    refine kW ?_
    refine kP [.c (obC o), .v (.tup [.str a, .int .i64 n, .bool true])] ?_ ?_
    ·((repeat' apply And.intro) <;> first | exact kD | (intro hgd; refine ⟨?_, kG⟩; (repeat' apply And.intro) <;> first | exact kD | skip) | skip)
     all_goals exact rowsO_at hg
    refine kS (kS ?_)
    refine AK.regC 6 36 (.when true (.bool true)) [] ?_ ?_ ?_ ?_
    ·((repeat' apply And.intro) <;> first | exact kD | (intro hgd; refine ⟨?_, kG⟩; (repeat' apply And.intro) <;> first | exact kD | skip) | skip)
    ·show AV.when true (AV.bool (!decide (a = rel))) = _
     rw [decide_eq_false ha]
     rfl
    ·((repeat' apply And.intro) <;> first | exact kD | (intro hgd; refine ⟨?_, kG⟩; (repeat' apply And.intro) <;> first | exact kD | skip) | skip)
    refine kCt ?_
    refine AK.exit rfl ?_
    refine kW ?_
    exact AK.lp ⟨(k + 1, r), ⟨by dsimp only; omega, by rw [allOk_take hg, hok1, hno]; rfl⟩, Weak.intro ⟨kI, kI, ⟨_, rfl, .of_eq (by rw [hst])⟩, kU, trivial⟩ trivial rfl rfl, by dsimp only; omega⟩
 ·have hlt : k = O.length := by
   have : O.length ≤ k := by simpa [rowsO_len] using hb
   omega
  subst hlt
  rw [List.take_length] at hok1 ⊢
  rw [if_pos hok1]
  refine AK.exit rfl ?_
  refine kW ?_
  refine AK.ret ⟨_, rfl, ?_⟩
  rfl
end Go.Proofs.YtgidajjjpeboeaaGreatDoor
