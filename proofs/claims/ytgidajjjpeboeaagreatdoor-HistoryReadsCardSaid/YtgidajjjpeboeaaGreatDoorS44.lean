/-
  The texts that the claim wants, one behind the other: part 44.
-/
import Derived.Test.YtgidajjjpeboeaaGreatDoorS43
set_option linter.unusedSimpArgs false
set_option linter.unusedVariables false
namespace Go.Proofs.YtgidajjjpeboeaaGreatDoor
open Go.RowKit
noncomputable def relJ (O : List Ob) (has : List CEnt) (last : Int) (fails : List Int) (fuse : Int) (down : Bool) : Nat × Option (Nat × Nat) → Fr × St
 | (k, none) => (frOf [(3, .lst .nil 1 []), (10, .lst .any 9 (rowsO O)), (11, .int .i64 (rowsO O).length), (12, .int .i64 k)], ⟨boxOf [(2000000, [.np 2900001 0, .int .i64 last, .lst .any 1 (rowsJ fails), .int .i64 fuse, .bool down, npC], false), (2900001, [mcA (rowsE has)], false)], fun _ => 0⟩)
 | (k, some (cap, m)) => (frOf [(3, .sli 1000001 1 (relsOf (O.take k)).length cap), (10, .lst .any 9 (rowsO O)), (11, .int .i64 (rowsO O).length), (12, .int .i64 k)], ⟨boxOf [(2000000, [.np 2900001 0, .int .i64 last, .lst .any 1 (rowsJ fails), .int .i64 fuse, .bool down, npC], false), (2900001, [mcA (rowsE has)], false), (1000001, (rowsT (relsOf (O.take k))).flatten ++ List.replicate m AV.top, false)], fun _ => 0⟩)
def relI (O : List Ob) : Nat × Option (Nat × Nat) → Prop
 | (k, none) => k ≤ O.length ∧ relsOf (O.take k) = []
 | (k, some (cap, m)) => k ≤ O.length ∧ 0 < (relsOf (O.take k)).length ∧ (relsOf (O.take k)).length ≤ cap ∧ ((rowsT (relsOf (O.take k))).flatten ++ List.replicate m AV.top).length = cap * 1
theorem okS_rowT {l : List AV} (h : l.all (AV.inS [1000001]) = true) (bx : Nat → Option (List AV × Bool)) : (okS [1000001] [(1000001, l)] (.tup []) && freeIds bx (newIds [1000001] [(1000001, l)])) = true := okS_row h bx
set_option maxHeartbeats 4000000 in
theorem releases_m (cl : Clu) (hok : CluOk cl) (hob : ∀ o ∈ cl.objects, ObOk o) : MS Tryz.prog 19 (cluX 2000000 2900001 cl) [.np 2000000 0] (cluX 2000000 2900001 cl) (.lst .any 1 (rowsT (nameS (relsOf cl.objects)))) := by
 have hO := objects_m cl hok
 have hOl : cl.objects.length ≤ 1000000 := by
  unfold Clu.objects
  rw [(sortO_perm _).length_eq, List.length_map]
  exact hok.len
 generalize cl.objects = O at *
 obtain ⟨has, last, fails, fuse, down⟩ := cl
 refine MS.enter Tryz.func19 a_history_Releases_ok a_history_Releases_cb (by rfl) (by rfl) fun E hE => ?_
 show AK _ _ _ [.c b_history_Releases] _ _
 rw [b_history_Releases]
 refine kW ?_
 refine kQ [.s [2000000, 2900001] (cluX 2000000 2900001 ⟨has, last, fails, fuse, down⟩) (.lst .any 9 (rowsO O))] ?_
 refine kW ?_
 refine AK.loopG (relJ O has last fails fuse down) (relI O) (fun i => O.length - i.1) (0, none) ⟨Nat.zero_le _, rfl⟩ (Weak.introN ⟨kI, kI, kI, kI, trivial⟩ ⟨kJ, kJ, trivial⟩ rfl rfl ⟨rfl, rfl, trivial⟩) fun ⟨k, fo⟩ hI => ?_
 rcases fo with _ | ⟨cap, m⟩
 ·obtain ⟨hk, hI⟩ := hI
  show AK _ _ _ _ (frOf _) _
  refine kW ?_
  refine kC (fun hb => ?_) fun hb => ?_
  ·have hlt : k < O.length := by simpa [rowsO_len] using hb
   obtain ⟨o, hg⟩ : ∃ x, O[k]? = some x := ⟨_, List.getElem?_eq_getElem hlt⟩
   have hom := hob o (List.mem_of_getElem? hg)
   have hst := relsOf_take hg
   have how := owner_any o.k o.s o.n hom.2.2.2
   clear hb
   refine kW ?_
   refine kP [.c (obC o)] ?_ ?_
   ·((repeat' apply And.intro) <;> first | exact kD | (intro hgd; refine ⟨?_, kG⟩; (repeat' apply And.intro) <;> first | exact kD | skip) | skip)
    all_goals exact rowsO_at hg
   cases hp : ownP o.k o.s o.n with
   | none =>
    rw [hp] at how
    have hno : relOf o = none := by unfold relOf; rw [hp]; rfl
    rw [hno] at hst
    refine kW ?_
    refine kQ [.v (.tup [.str ⟨#[]⟩, .int .i64 0, .bool false])] ?_
    refine kW ?_
    refine kCf ?_
    refine kW ?_
    refine AK.lp (LQ_weak (k + 1, none) ⟨by omega, by rw [hst, hI]; rfl⟩ (by dsimp only; omega) ?_)
    exact Weak.introN ⟨kI, kI, kI, kU, trivial⟩ ⟨kJ, kJ, trivial⟩ rfl rfl ⟨rfl, rfl, trivial⟩
   | some p =>
    rw [hp] at how
    obtain ⟨a, n⟩ := p
    have hno : relOf o = some a := by unfold relOf; rw [hp]; rfl
    rw [hno] at hst
    have hst : relsOf (O.take (k + 1)) = relsOf (O.take k) ++ [a] := hst
    refine kW ?_
    refine kQ [.v (.tup [.str a, .int .i64 n, .bool true])] ?_
    refine kW ?_
    refine kCt ?_
    refine kP [.m [] []] ?_ ?_
    ·(repeat' apply And.intro) <;> first | exact kD | exact ⟨_, rfl⟩ | (simp only [List.length_cons, List.length_nil]; omega)
    refine kW ?_
    refine AK.lp (LQ_open 3 27 1000001 rfl (by omega) rfl fun cap' m' h1 h2 => ⟨(k + 1, some (cap', m')), ⟨by omega, by rw [hst, hI]; exact Nat.one_pos, ?_⟩, by dsimp only; omega, ?_⟩)
    ·rw [hst, hI]
     exact ⟨h1, h2⟩
    ·exact Weak.introN ⟨⟨_, rfl, .of_eq (by rw [hst, hI]; rfl)⟩, kI, kI, kU, trivial⟩ ⟨kJ, kJ, ⟨_, rfl, leL_of_eq (by rw [hst, hI]; rfl)⟩, trivial⟩ rfl rfl ⟨rfl, rfl, all_rowsT (fun _ => rfl) rfl _ _, trivial⟩
  ·have hlt : k = O.length := by
    have : O.length ≤ k := by simpa [rowsO_len] using hb
    omega
   have htk : O.take k = O := by rw [hlt, List.take_length]
   clear hb
   refine AK.exit rfl ?_
   rw [htk] at hI
   rw [hI, nameS_nil]
   have h1 := sortTNil_a
   have h2 := compTNil_a
   refine kW ?_
   refine kQ [.v (.tup [])] ?_
   refine kW ?_
   refine kQ [.v (.lst .any 1 [])] ?_
   refine kW ?_
   exact AK.ret ⟨⟨_, rfl, rfl⟩, ⟨_, rfl, rfl⟩, ⟨_, rfl, rfl⟩, trivial⟩
 ·obtain ⟨hk, h0, hI⟩ := hI
  show AK _ _ _ _ (frOf _) _
  have hrl := relsOf_len (O.take k)
  rw [List.length_take] at hrl
  refine kW ?_
  refine kC (fun hb => ?_) fun hb => ?_
  ·have hlt : k < O.length := by simpa [rowsO_len] using hb
   obtain ⟨o, hg⟩ : ∃ x, O[k]? = some x := ⟨_, List.getElem?_eq_getElem hlt⟩
   have hom := hob o (List.mem_of_getElem? hg)
   have hst := relsOf_take hg
   have how := owner_any o.k o.s o.n hom.2.2.2
   clear hb
   refine kW ?_
   refine kP [.c (obC o)] ?_ ?_
   ·((repeat' apply And.intro) <;> first | exact kD | (intro hgd; refine ⟨?_, kG⟩; (repeat' apply And.intro) <;> first | exact kD | skip) | skip)
    all_goals exact rowsO_at hg
   cases hp : ownP o.k o.s o.n with
   | none =>
    rw [hp] at how
    have hno : relOf o = none := by unfold relOf; rw [hp]; rfl
    rw [hno] at hst
    have hst : relsOf (O.take (k + 1)) = relsOf (O.take k) := by rw [hst]; exact List.append_nil _
    refine kW ?_
    refine kQ [.v (.tup [.str ⟨#[]⟩, .int .i64 0, .bool false])] ?_
    refine kW ?_
    refine kCf ?_
    refine kW ?_
    refine AK.lp (LQ_weak (k + 1, some (cap, m)) ⟨by omega, by rw [hst]; exact h0, by rw [hst]; exact hI⟩ (by dsimp only; omega) ?_)
    exact Weak.introN ⟨⟨_, rfl, .of_eq (by rw [hst])⟩, kI, kI, kU, trivial⟩ ⟨kJ, kJ, ⟨_, rfl, leL_of_eq (by rw [hst])⟩, trivial⟩ rfl rfl ⟨rfl, rfl, all_rowsT (fun _ => rfl) rfl _ _, trivial⟩
   | some p =>
    rw [hp] at how
    obtain ⟨a, n⟩ := p
    have hno : relOf o = some a := by unfold relOf; rw [hp]; rfl
    rw [hno] at hst
    have hst : relsOf (O.take (k + 1)) = relsOf (O.take k) ++ [a] := hst
    refine kW ?_
    refine kQ [.v (.tup [.str a, .int .i64 n, .bool true])] ?_
    refine kW ?_
    refine kCt ?_
    refine kP [.m (rowsT (relsOf (O.take k))) []] ?_ ?_
    ·(repeat' apply And.intro) <;> first | exact kD | exact ⟨_, rfl⟩ | exact hI.2 | exact (rowsT_ok _).2 | exact (rowsT_ok _).1 | exact (rowsT_len _).symm | (rw [rowsT_len]; simp only [List.length_cons, List.length_nil]; omega)
    refine kW ?_
    have hsn : rowsT (relsOf (O.take k)) ++ [[AV.str a]] = rowsT (relsOf (O.take (k + 1))) := by rw [hst, rowsT_snoc]
    refine AK.lp (LQ_open 3 27 1000001 rfl (by omega) rfl fun cap' m' h1 h2 => ⟨(k + 1, some (cap', m')), ⟨by omega, by rw [hst, List.length_append]; omega, ?_⟩, by dsimp only; omega, ?_⟩)
    ·have h1' : (rowsT (relsOf (O.take k)) ++ [[AV.str a]]).length ≤ cap' := h1
     have h2' : ((rowsT (relsOf (O.take k)) ++ [[AV.str a]]).flatten ++ List.replicate m' AV.top).length = cap' * 1 := h2
     rw [hsn] at h1' h2'
     rw [rowsT_len] at h1'
     exact ⟨h1', h2'⟩
    ·refine Weak.introN ⟨⟨_, rfl, .of_eq ?_⟩, kI, kI, kU, trivial⟩ ⟨kJ, kJ, ⟨_, rfl, leL_of_eq ?_⟩, trivial⟩ rfl rfl ⟨rfl, rfl, all_rowsT (fun _ => rfl) rfl _ _, trivial⟩
     ·show AV.sli 1000001 1 (rowsT (relsOf (O.take k)) ++ [[AV.str a]]).length cap' = _
      rw [hsn, rowsT_len]
     ·show (rowsT (relsOf (O.take k)) ++ [[AV.str a]]).flatten ++ List.replicate m' AV.top = _
      rw [hsn]
  ·have hlt : k = O.length := by
    have : O.length ≤ k := by simpa [rowsO_len] using hb
    omega
   have htk : O.take k = O := by rw [hlt, List.take_length]
   clear hb
   refine AK.exit rfl ?_
   rw [← htk]
   generalize hR : relsOf (O.take k) = R at *
   have hS := sortT_mr R (by omega) cap m hI.1 hI.2
   have hsl := sortS_len R
   have hC := compT_mr (sortS R) (by omega) (by omega)
   rw [← nameS_eq] at hC
   have hS2 : MS Tryz.prog 48 [(1000001, ((rowsT R).flatten ++ List.replicate m AV.top).map AV.told)] [.sli 1000001 1 R.length cap] [(1000001, (rowsT (sortS R)).flatten ++ List.replicate m AV.top)] (.tup []) := by
    rw [map_rowsT (fun _ => rfl) rfl]
    exact hS
   have hok := okS_rowT (all_rowsT (g := AV.inS [1000001]) (fun _ => rfl) rfl (sortS R) m)
   have hz2 : ((rowsT (sortS R)).flatten ++ List.replicate m AV.top).length = cap * 1 := by
    have := hI.2
    rw [List.length_append, rowsT_strs, List.length_map] at this ⊢
    rw [hsl]
    exact this
   refine AK.weak (Weak.introN (L := [(3, .sli 1000001 1 R.length cap)]) (BL := [(2000000, [.np 2900001 0, .int .i64 last, .lst .any 1 (rowsJ fails), .int .i64 fuse, .bool down, npC], false), (2900001, [mcA (rowsE has)], false), (1000001, (rowsT R).flatten ++ List.replicate m AV.top, false)]) ⟨⟨_, rfl, .of_eq (by rw [htk, hR])⟩, trivial⟩ ⟨kJ, kJ, ⟨_, rfl, leL_of_eq (by rw [htk, hR])⟩, trivial⟩ rfl rfl ⟨rfl, rfl, all_rowsT (fun _ => rfl) rfl _ _, trivial⟩) ?_
   refine kW ?_
   refine kP [.s [1000001] [(1000001, (rowsT (sortS R)).flatten ++ List.replicate m AV.top)] (.tup [])] ?_ ?_
   ·(repeat' apply And.intro) <;> first | exact hS2 | exact hok _ | exact kD
   refine kW ?_
   refine kP [.m (rowsT (sortS R)) (rowsT (nameS R))] ?_ ?_
   ·(repeat' apply And.intro) <;> first | exact kD | exact ⟨_, rfl⟩ | exact hz2 | exact hC | exact (rowsT_ok _).2 | exact (rowsT_ok _).1 | (rw [rowsT_len, hsl])
   refine AK.open2 32 1000002 rfl (by omega) rfl (rowsT_ok _) fun cap2 cs2 hr2 => ?_
   refine AK.fz 1000002 rfl ?_
   refine AK.weak (Weak.introN (L := [(2, .lst .any 1 (rowsT (nameS R)))]) (BL := [(2000000, [.np 2900001 0, .int .i64 last, .lst .any 1 (rowsJ fails), .int .i64 fuse, .bool down, npC], false), (2900001, [mcA (rowsE has)], false)]) ⟨⟨_, rfl, .one (hr2.le rfl)⟩, trivial⟩ ⟨kJ, kJ, trivial⟩ rfl rfl ⟨rfl, rfl, trivial⟩) ?_
   refine kW ?_
   exact AK.ret ⟨⟨_, rfl, rfl⟩, ⟨_, rfl, rfl⟩, ⟨_, rfl, rfl⟩, trivial⟩
theorem releasesX (cl : Clu) (h : CluG cl) : MS Tryz.prog 19 (cluX 1000100 1900101 cl) [.np 1000100 0] (cluX 1000100 1900101 cl) (.lst .any 1 (rowsT (nameS (relsOf cl.objects)))) := (releases_m cl h.k.ok h.objects).ren rhoC rhoC_inj rhoC_mp
theorem releasesNil_a : AC Tryz.prog 19 [npC] (.lst .any 1 []) := by
 have h0 := objectsNil_a
 have h1 := sortTNil_a
 have h2 := compTNil_a
 refine kE Tryz.func19 a_history_Releases_ok a_history_Releases_cb fun E hE => ?_
 refine kW ?_
 refine kQ [.v (.lst .any 9 [])] ?_
 refine kW ?_
 refine AK.loopI (fun _ : Nat => (frOf [(3, .lst .nil 1 []), (10, .lst .any 9 []), (11, .int .i64 0), (12, .int .i64 0)], ⟨boxOf [], fun _ => 0⟩)) (fun _ => True) (fun _ => 0) 0 trivial (Weak.intro ⟨kI, kI, kI, kI, trivial⟩ trivial rfl rfl) fun k _ => ?_
 refine kW ?_
 refine kCf ?_
 refine AK.exit rfl ?_
 refine kW ?_
 refine kQ [.v (.tup [])] ?_
 refine kW ?_
 refine kQ [.v (.lst .any 1 [])] ?_
 refine kW ?_
 refine AK.ret ⟨_, rfl, ?_⟩
 rfl
end Go.Proofs.YtgidajjjpeboeaaGreatDoor
