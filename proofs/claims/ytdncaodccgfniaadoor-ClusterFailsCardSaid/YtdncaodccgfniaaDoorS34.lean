/-
  The texts that the claim wants, one behind the other: part 34.
-/
import Derived.Test.YtdncaodccgfniaaDoorS33
set_option linter.unusedSimpArgs false
set_option linter.unusedVariables false
namespace Go.Proofs.YtdncaodccgfniaaDoor
open Go.RowKit
theorem obI_step {has la lb done : List CEnt} {e : CEnt} {cap m cap' m' : Nat} (h : obI has (la ++ e :: lb, done, cap, m)) (hc : (rowsO (done.map obE) ++ [obC (obE e)]).length ≤ cap') (hl : ((rowsO (done.map obE) ++ [obC (obE e)]).flatten ++ List.replicate m' AV.top).length = cap' * 9) : obI has (la ++ lb, done ++ [e], cap', m') := by
 obtain ⟨h1, h2, h3⟩ := h
 refine ⟨?_, ?_, fun _ => ?_⟩
 ·refine List.Perm.trans ?_ h1
  simp only
  rw [List.append_assoc, List.append_assoc]
  refine List.Perm.append_left _ ?_
  rw [List.cons_append, ← List.append_assoc]
  exact List.perm_append_singleton _ _
 ·simp only [List.length_append, List.length_cons, List.length_nil, rowsO_len, List.length_map] at hc ⊢
  omega
 ·simp only [List.map_append, List.map_cons, List.map_nil]
  rw [rowsO_snoc]
  exact hl
theorem rowsE_append (a b : List CEnt) : rowsE a ++ rowsE b = rowsE (a ++ b) := by unfold rowsE; rw [List.map_append]
theorem noFrs_rowsO (l : List Ob) (m : Nat) : ((rowsO l).flatten ++ List.replicate m AV.top).all AV.noFrs = true := by
 rw [List.all_eq_true]
 intro c hc
 rcases List.mem_append.1 hc with hc | hc
 ·obtain ⟨r, hr, hcr⟩ := List.mem_flatten.1 hc
  obtain ⟨o, _, rfl⟩ := List.mem_map.1 hr
  have := obC_clean o c hcr
  cases c <;> first | rfl | cases this
 ·rw [(List.mem_replicate.1 hc).2]; rfl
theorem clean_inS {a : AV} (h : a.clean = true) (ids : List Nat) : a.inS ids = true := by
 cases a with
 | lst t e l => cases t <;> first | rfl | cases h
 | _ => first | rfl | cases h
theorem map_clean {g : AV → AV} (hg : ∀ a : AV, a.clean = true → g a = a) (l : List Ob) (m : Nat) : ((rowsO l).flatten ++ List.replicate m AV.top).map g = (rowsO l).flatten ++ List.replicate m AV.top := by
 rw [show ((rowsO l).flatten ++ List.replicate m AV.top).map g = ((rowsO l).flatten ++ List.replicate m AV.top).map id from List.map_congr_left fun c hc => ?_, List.map_id]
 rcases List.mem_append.1 hc with hc | hc
 ·obtain ⟨r, hr, hcr⟩ := List.mem_flatten.1 hc
  obtain ⟨o, _, rfl⟩ := List.mem_map.1 hr
  exact hg c (obC_clean o c hcr)
 ·rw [(List.mem_replicate.1 hc).2]; exact hg _ rfl
theorem clean_told {a : AV} (h : a.clean = true) : a.told = a := by
 cases a with
 | lst t e l => cases t <;> first | rfl | cases h
 | _ => first | rfl | cases h
theorem clean_clr {a : AV} (N : List Nat) (h : a.clean = true) : clrC N a = a := by
 cases a with
 | lst t e l => rfl
 | _ => first | rfl | cases h
theorem clean_ren {a : AV} (ρ : Nat → Nat) (h : a.clean = true) : a.ren ρ = a := by
 cases a with
 | lst t e l => rfl
 | _ => first | rfl | cases h
theorem inS_rowsO (l : List Ob) (m : Nat) (ids : List Nat) : ((rowsO l).flatten ++ List.replicate m AV.top).all (AV.inS ids) = true := by
 rw [List.all_eq_true]
 intro c hc
 rcases List.mem_append.1 hc with hc | hc
 ·obtain ⟨r, hr, hcr⟩ := List.mem_flatten.1 hc
  obtain ⟨o, _, rfl⟩ := List.mem_map.1 hr
  have := obC_clean o c hcr
  exact clean_inS this ids
 ·rw [(List.mem_replicate.1 hc).2]; rfl
theorem ren_rowsO (ρ : Nat → Nat) (l : List Ob) (m : Nat) : ((rowsO l).flatten ++ List.replicate m AV.top).map (AV.ren ρ) = (rowsO l).flatten ++ List.replicate m AV.top := map_clean (fun a h => clean_ren ρ h) l m
theorem okS_row {cs : List AV} (h : cs.all (AV.inS [1000001]) = true) (b : Nat → Option (List AV × Bool)) : (okS [1000001] [(1000001, cs)] (.tup []) && freeIds b (newIds [1000001] [(1000001, cs)])) = true := by
 unfold okS
 show ((true && (cs.all (AV.inS [1000001]) && true)) && true && true) = true
 rw [h]
 rfl
theorem sortO_mr (l : List Ob) (hnd : (l.map obId).Nodup) (hlen : l.length ≤ 1000000) (cap m : Nat) (hcap : l.length ≤ cap) (hz : ((rowsO l).flatten ++ List.replicate m AV.top).length = cap * 9) :
  MS Tryd.prog 24 [(1000001, (rowsO l).flatten ++ List.replicate m AV.top)] [.sli 1000001 9 l.length cap, .fn 25 []] [(1000001, (rowsO (sortO l)).flatten ++ List.replicate m AV.top)] (.tup []) := by
 have h := (sortO_ms l hnd hlen cap m hcap hz).ren rhoO rhoO_inj rhoO_mp
 unfold renS at h
 simp only [List.map_cons, List.map_nil, ren_rowsO] at h
 exact h
set_option maxHeartbeats 20000000 in
theorem objects_m (cl : Clu) (hok : CluOk cl) : MS Tryd.prog 10 (cluX 2000000 2900001 cl) [.np 2000000 0] (cluX 2000000 2900001 cl) (.lst .any 9 (rowsO cl.objects)) := by
 obtain ⟨has, last, fails, fuse, down⟩ := cl
 obtain ⟨hnd, hsz, hlen⟩ := hok
 dsimp only at hnd hsz hlen
 refine MS.enter Tryd.func10 a_cluster_Cluster_Objects_ok a_cluster_Cluster_Objects_cb (by rfl) (by rfl) fun E hE => ?_
 show AK _ _ _ [.c b_cluster_Cluster_Objects] _ _
 rw [b_cluster_Cluster_Objects]
 refine kS ?_
 refine kA fw0 ?_
 refine kS ?_
 refine kS ?_
 refine kP [] ?_ ?_
 ·(repeat' apply And.intro) <;> first | exact fun g o => someClu false g o | exact kD
 refine kCf ?_
 (repeat (first | refine kA fw0 ?_ | (apply kS; refine kA fw0 ?_) | apply kN | apply kB | apply kL))
 refine kS ?_
 refine AK.mrange 2900001 (rowsE has) (cluX 2000000 2900001 ⟨has, last, fails, fuse, down⟩) [] obJ (obI has) (fun i => rowsE i.1) (has, [], 0, 0) ?_ ?_ rfl ?_ ?_ ?_ ?_ ?_ ?_ ?_ ?_
 ·(repeat' apply And.intro) <;> exact kD
 ·exact ⟨by simp, by simp, fun h => absurd rfl h⟩
 ·intro x hx
  rcases List.mem_cons.1 hx with rfl | hx
  ·rfl
  ·rw [List.mem_singleton.1 hx]; rfl
 ·intro x hx
  rcases List.mem_cons.1 hx with rfl | hx
  ·show 1000000 ≤ 2000000; omega
  ·rw [List.mem_singleton.1 hx]; show 1000000 ≤ 2900001; omega
 ·intro x hx c hc
  rcases List.mem_cons.1 hx with rfl | hx
  ·simp at hc
   rcases hc with rfl | rfl | rfl | rfl | rfl | rfl <;> rfl
  ·rw [List.mem_singleton.1 hx] at hc
   rw [List.mem_singleton.1 hc]
   rfl
 ·exact List.mem_cons_of_mem _ (List.mem_singleton.2 rfl)
 ·intro r
  exact Weak.introN (L := [(3, .lst .nil 9 []), (12, itA r)]) (BL := []) ⟨kI, kI, trivial⟩ trivial rfl rfl trivial
 ·intro r ⟨left, done, cap, m⟩
  cases done <;> rfl
 ·intro E2 r ⟨left, done, cap, m⟩ la row lb hE2 hI hL hent
  obtain ⟨la', e, lb', rfl, rfl, rfl, rfl⟩ := rowsE_split hL
  have hez : e.body.size ≤ 1000000 := hsz e (hI.1.mem_iff.1 (by simp))
  have hdl : done.length ≤ 1000000 := by have := hI.1.length_eq; simp at this; omega
  have hcl : AC Tryd.prog 22 [(vA (e.body))] ((vA (e.body))) := clone_ok e.body (by omega)
  have hnew : ∀ cap m, (rowsO (done.map obE) ++ [obC (obE e)]).length ≤ cap → ((rowsO (done.map obE) ++ [obC (obE e)]).flatten ++ List.replicate m AV.top).length = cap * 9 → obI has (la' ++ lb', done ++ [e], cap, m) := fun cap' m' h1 h2 => obI_step hI h1 h2
  cases done with
  | nil =>
   refine ⟨[], _, _, _, _, rfl, trivial, ?_⟩
   refine kS ?_
   refine kCt ?_
   refine kN ?_
   refine kB ?_
   refine kS ?_
   refine AK.ent (rs := []) hent rfl rfl ?_ ?_
   ·(repeat' apply And.intro) <;> exact kD
   refine kP [.v ((vA (e.body))), .m [] []] ?_ ?_
   ·(repeat' apply And.intro) <;> first | exact hcl | exact kD
   refine kL ?_
   refine AK.nil ?_
   refine MQ_open 3 25 1000001 rfl (by omega) rfl fun cap' m' h1 h2 => ⟨(la' ++ lb', [e], cap', m'), hnew cap' m' h1 h2, by rw [rowsE_append], ?_⟩
   exact Weak.introN (L := [(3, .sli 1000001 9 1 cap'), (12, itA r)]) (BL := [(1000001, (rowsO ([e].map obE)).flatten ++ List.replicate m' AV.top, false)]) ⟨kI, kI, trivial⟩ ⟨kJ, trivial⟩ rfl rfl ⟨noFrs_rowsO _ _, trivial⟩
  | cons d ds =>
   refine ⟨[], _, _, _, _, rfl, trivial, ?_⟩
   refine kS ?_
   refine kCt ?_
   refine kN ?_
   refine kB ?_
   refine kS ?_
   refine AK.ent (rs := []) hent rfl rfl ?_ ?_
   ·(repeat' apply And.intro) <;> exact kD
   have hz := hI.2.2 (by simp)
   dsimp only at hz
   have hol : (rowsO ((d :: ds).map obE)).length = ds.length + 1 := by rw [rowsO_len, List.length_map]; rfl
   refine kP [.v ((vA (e.body))), .m (rowsO ((d :: ds).map obE)) []] ?_ ?_
   ·(repeat' apply And.intro) <;> first | exact hcl | exact kD | exact ⟨_, rfl⟩ | exact hz | exact (rowsO_ok _).2 | exact (rowsO_ok _).1 | exact hol.symm | (rw [hol]; simp only [List.length_cons, List.length_nil] at *; omega)
   refine kL ?_
   refine AK.nil ?_
   refine MQ_open 3 25 1000001 rfl (by omega) rfl fun cap' m' h1 h2 => ⟨(la' ++ lb', d :: ds ++ [e], cap', m'), hnew cap' m' h1 h2, by rw [rowsE_append], ?_⟩
   refine Weak.introN (L := [(3, .sli 1000001 9 ((ds ++ [e]).length + 1) cap'), (12, itA r)]) (BL := [(1000001, (rowsO ((d :: (ds ++ [e])).map obE)).flatten ++ List.replicate m' AV.top, false)]) ⟨⟨_, rfl, .of_eq ?_⟩, kI, trivial⟩ ⟨⟨_, rfl, leL_of_eq ?_⟩, trivial⟩ rfl rfl ⟨noFrs_rowsO _ _, trivial⟩
   ·show AV.sli 1000001 9 (rowsO ((d :: ds).map obE) ++ [obC (obE e)]).length cap' = _
    rw [List.length_append, hol, List.length_append]
    rfl
   ·show (rowsO ((d :: ds).map obE) ++ [obC (obE e)]).flatten ++ List.replicate m' AV.top = _
    rw [← rowsO_snoc, show d :: (ds ++ [e]) = (d :: ds) ++ [e] from rfl, List.map_append]
    rfl
 ·intro E2 r ⟨left, done, cap, m⟩ hE2 hI hL
  have hl : left = [] := by
   unfold rowsE at hL
   exact List.map_eq_nil_iff.1 hL
  subst hl
  have hperm : done.Perm has := by have := hI.1; simpa using this
  have hobj : sortO (done.map obE) = sortO (has.map obE) := sortO_one (obE_nd ((hperm.map _).nodup_iff.2 hnd)) (hperm.map obE)
  cases done with
  | nil =>
   refine ⟨[], _, _, _, _, rfl, trivial, ?_⟩
   refine kS ?_
   refine kCf ?_
   refine AK.exitMQ ?_
   refine kW ?_
   have hsn := sortNil_a (.fn 25 []) rfl
   refine kQ [.v (.tup [])] ?_
   refine kW ?_
   have ho : rowsO (Clu.objects ⟨has, last, fails, fuse, down⟩) = [] := by
    unfold Clu.objects
    rw [← hobj]
    unfold sortO
    rw [List.map_nil, List.mergeSort_nil]
    rfl
   rw [ho]
   refine AK.ret ⟨⟨_, rfl, rfl⟩, ⟨_, rfl, rfl⟩, ⟨_, rfl, rfl⟩, trivial⟩
  | cons d ds =>
   refine ⟨[], _, _, _, _, rfl, trivial, ?_⟩
   refine kS ?_
   refine kCf ?_
   refine AK.exitMQ ?_
   have hz := hI.2.2 (by simp)
   have hcp := hI.2.1
   dsimp only at hz hcp
   have hol : ((d :: ds).map obE).length = ds.length + 1 := by simp
   have hsl : (sortO ((d :: ds).map obE)).length = ds.length + 1 := by rw [(sortO_perm _).length_eq]; exact hol
   have hdl : ds.length + 1 ≤ 1000000 := by have := hperm.length_eq; simp at this; omega
   have hS := sortO_mr ((d :: ds).map obE) (obE_nd ((hperm.map _).nodup_iff.2 hnd)) (by rw [hol]; exact hdl) cap m (by rw [hol]; simpa using hcp) hz
   have hC := RowCs.mk_ (rowsO_ok (sortO ((d :: ds).map obE))) (cap := cap) (m := m) (by rw [rowsO_len, hsl]; simpa using hcp) (by
    rw [List.length_append, rowsO_flen, hsl]
    rw [List.length_append, rowsO_flen, hol] at hz
    exact hz)
   have hok := okS_row (inS_rowsO (sortO ((d :: ds).map obE)) m [1000001])
   rw [hol] at hS
   refine AK.weak (Weak.introN (L := [(3, .sli 1000001 9 (ds.length + 1) cap)]) (BL := [(1000001, (rowsO ((d :: ds).map obE)).flatten ++ List.replicate m AV.top, false), (2000000, [.np 2900001 0, .int .i64 last, .lst .any 1 (rowsJ fails), .int .i64 fuse, .bool down, npC], false), (2900001, [mcA (rowsE has)], false)]) ⟨kI, trivial⟩ ⟨⟨_, rfl, leL_of_eq (map_clean (fun a h => clean_clr _ h) _ m)⟩, kJ, kJ, trivial⟩ rfl rfl ⟨noFrs_rowsO _ _, rfl, rfl, trivial⟩) ?_
   refine kW ?_
   refine kP [.s [1000001] [(1000001, (rowsO (sortO ((d :: ds).map obE))).flatten ++ List.replicate m AV.top)] (.tup [])] ?_ ?_
   ·(repeat' apply And.intro) <;> first | exact hS | exact hok _ | (rw [map_clean (fun a h => clean_told h)]; exact hS) | exact kD
   refine kW ?_
   refine AK.fz 1000001 rfl ?_
   refine AK.weak (Weak.introN (L := [(2, .lst .any 9 (rowsO (sortO ((d :: ds).map obE))))]) (BL := [(2000000, [.np 2900001 0, .int .i64 last, .lst .any 1 (rowsJ fails), .int .i64 fuse, .bool down, npC], false), (2900001, [mcA (rowsE has)], false)]) ⟨⟨_, rfl, ?_⟩, trivial⟩ ⟨kJ, kJ, trivial⟩ rfl rfl ⟨rfl, rfl, trivial⟩) ?_
   ·show AVle _ (.sli 1000001 9 (ds.length + 1) cap) _
    have hn : ds.length + 1 = (rowsO (sortO ((d :: ds).map obE))).length := by rw [rowsO_len, hsl]
    rw [hn]
    exact .one (hC.le rfl)
   have ho : rowsO (Clu.objects ⟨has, last, fails, fuse, down⟩) = rowsO (sortO ((d :: ds).map obE)) := by
    unfold Clu.objects
    rw [← hobj]
   rw [ho]
   exact AK.ret ⟨⟨_, rfl, rfl⟩, ⟨_, rfl, rfl⟩, ⟨_, rfl, rfl⟩, trivial⟩
end Go.Proofs.YtdncaodccgfniaaDoor
namespace Go.Proofs.YtdncaodccgfniaaDoor
open Go.RowKit Go.Maps Go.MapKept Go.ChangeMaps
set_option maxHeartbeats 20000000 in
theorem create_g (cl : Clu) (hk : CluK cl) {i : OId} (hi : KeyI i.k i.s i.n) (v : V) (hv : v.size ≤ 1000000) (wr : Int) (hw : AC Tryd.prog 16 [.agg (idA i), (vA (v))] (.int .i64 wr)) :
  MS Tryd.prog 8 (cluX 2000000 2900001 cl) [.np 2000000 0, .agg (idA i), (vA (v))] (cluX 2000000 2900001 (cl.create wr i v).2) (.int .i64 (cl.create wr i v).1) := by
 have hwr := write_g cl hk
 have hk2 := hk.write
 have hf2 : cl.write.2.find i = cl.find i := by unfold Clu.find; rw [(write_has cl).1]
 unfold Clu.create
 refine MS.enter Tryd.func8 a_cluster_Cluster_Create_ok a_cluster_Cluster_Create_cb (by rfl) (by rfl) fun E hE => ?_
 show AK _ _ _ [.c b_cluster_Cluster_Create] _ _
 rw [b_cluster_Cluster_Create]
 refine kW ?_
 refine kQ [.v (.int .i64 wr)] ?_
 refine kW ?_
 refine kC (fun hb => ?_) fun hb => ?_
 ·have h1 : wr ≠ 0 := by simpa using hb
  rw [if_pos h1]
  refine kW ?_
  exact AK.ret ⟨⟨_, rfl, rfl⟩, ⟨_, rfl, rfl⟩, ⟨_, rfl, rfl⟩, trivial⟩
 have h1 : ¬ wr ≠ 0 := by simpa using hb
 rw [if_neg h1]
 clear hb h1
 refine kW ?_
 refine kQ [.s [2000000, 2900001] (cluX 2000000 2900001 cl.write.2) (.int .i64 cl.write.1)] ?_
 refine kW ?_
 refine kC (fun hb => ?_) fun hb => ?_
 ·have h1 : cl.write.1 ≠ 0 := by simpa using hb
  rw [if_pos h1]
  refine kW ?_
  exact AK.ret ⟨⟨_, rfl, rfl⟩, ⟨_, rfl, rfl⟩, ⟨_, rfl, rfl⟩, trivial⟩
 have h1 : ¬ cl.write.1 ≠ 0 := by simpa using hb
 rw [if_neg h1, ← hf2]
 clear hb h1 hwr hf2
 generalize cl.write.2 = c2 at *
 have ha := add_a 1
 have hp := put_g c2 hk2 hi v hv
 refine kW ?_
 refine AK.weak (Weak.introN (L := [(0, .np 2000000 0), (4, .ptr 4 0), (5, .ptr 5 0)]) (BL := [(4, idA i, false), (5, (vC (v)), false), (2000000, [.np 2900001 0, .int .i64 c2.last, .lst .any 1 (rowsJ c2.fails), .int .i64 c2.fuse, .bool c2.down, npC], false), (2900001, [mcA (rowsE c2.has)], false)]) ⟨kI, kI, kI, trivial⟩ ⟨kJ, kJ, kJ, kJ, trivial⟩ rfl rfl ⟨rfl, rfl, trivial⟩) ?_
 cases hfd : c2.find i with
 | some e =>
  have hg := getS_g c2 hk2 hi hfd
  refine AK.rega fw0 [.s [2900001] [(2900001, [mcA (rowsE c2.has)])] (.tup [.agg (enV e.body e.ver), .bool true])] (frOf [(10, .bool true)]) ⟨boxOf [(2000000, [.np 2900001 0, .int .i64 c2.last, .lst .any 1 (rowsJ c2.fails), .int .i64 c2.fuse, .bool c2.down, npC], false), (2900001, [mcA (rowsE c2.has)], false)], fun _ => 0⟩ ?_ ?_
  ·(repeat' (first | exact trivial | apply And.intro))
   all_goals first | (show _ = _; exact rfl) | (show MOp _ _ _ _ _ _; exact hg) | exact Weak.introN ⟨kI, trivial⟩ ⟨kJ, kJ, trivial⟩ rfl rfl ⟨rfl, rfl, trivial⟩
  refine kW ?_
  refine kCt ?_
  refine kW ?_
  exact AK.ret ⟨⟨_, rfl, rfl⟩, ⟨_, rfl, rfl⟩, ⟨_, rfl, rfl⟩, trivial⟩
 | none =>
  have hg := getN_g c2 hk2 hi hfd
  refine AK.rega fw0 [.s [2900001] [(2900001, [mcA (rowsE c2.has)])] (.tup [.agg zE, .bool false])] (frOf [(0, .np 2000000 0), (4, .ptr 4 0), (5, .ptr 5 0), (10, .bool false)]) ⟨boxOf [(4, idA i, false), (5, (vC (v)), false), (2000000, [.np 2900001 0, .int .i64 c2.last, .lst .any 1 (rowsJ c2.fails), .int .i64 c2.fuse, .bool c2.down, npC], false), (2900001, [mcA (rowsE c2.has)], false)], fun _ => 0⟩ ?_ ?_
  ·(repeat' (first | exact trivial | apply And.intro))
   all_goals first | (show _ = _; exact rfl) | (show MOp _ _ _ _ _ _; exact hg) | exact Weak.introN ⟨kI, kI, kI, kI, trivial⟩ ⟨kJ, kJ, kJ, kJ, trivial⟩ rfl rfl ⟨rfl, rfl, trivial⟩
  refine kW ?_
  refine kCf ?_
  refine kW ?_
  refine kQ [.v (.int .i64 0)] ?_
  refine kW ?_
  refine kQ [.s [2000000, 2900001] (cluX 2000000 2900001 (c2.put i v)) (.tup [])] ?_
  refine kW ?_
  exact AK.ret ⟨⟨_, rfl, rfl⟩, ⟨_, rfl, rfl⟩, ⟨_, rfl, rfl⟩, trivial⟩
theorem create_s (cl : Clu) (hk : CluK cl) {i : OId} (hi : KeyI i.k i.s i.n) (hw : idOk i.k i.s i.n) : MS Tryd.prog 8 (cluX 1000100 1900101 cl) [.np 1000100 0, .agg (idA i), (vA (emB))] (cluX 1000100 1900101 (cl.create 0 i emB).2) (.int .i64 (cl.create 0 i emB).1) :=
 (create_g cl hk hi emB (by decide +kernel) 0 (wrong_a hw)).ren rhoC rhoC_inj rhoC_mp
theorem down_s (cl : Clu) : MS Tryd.prog 11 (cluX 1000100 1900101 cl) [.np 1000100 0] (cluX 1000100 1900101 cl) (.bool cl.down) := (down_g cl).ren rhoC rhoC_inj rhoC_mp
theorem objects_s (cl : Clu) (hok : CluOk cl) : MS Tryd.prog 10 (cluX 1000100 1900101 cl) [.np 1000100 0] (cluX 1000100 1900101 cl) (.lst .any 9 (rowsO cl.objects)) := by
 have h := (objects_m cl hok).ren rhoC rhoC_inj rhoC_mp
 exact h
theorem nm_at : ∀ k : Fin 60, (⟨#[99]⟩ : ByteArray) ++ ⟨[(IntKind.u8.wrap (IntKind.i64.wrap (97 + ((k.val : Nat) : Int).tmod 26))).toNat.toUInt8, (IntKind.u8.wrap (IntKind.i64.wrap (97 + IntKind.i64.wrap (((k.val : Nat) : Int).tdiv 26)))).toNat.toUInt8].toArray⟩ = nmI k.val := by decide +kernel
theorem nm_ok : ∀ k : Fin 60, idOk ⟨#[65]⟩ ⟨#[98]⟩ (nmI k.val) := by
 have h : ∀ k : Fin 60, (wordOkB ⟨#[65]⟩ && wordOkB ⟨#[98]⟩ && wordOkB (nmI k.val)) = true := by decide +kernel
 exact fun k => ⟨h k, by decide, by decide, by show (3 : Nat) ≤ 64; omega⟩
theorem idI_at {k : Nat} (h : k < 60) : idI k = ⟨⟨#[65]⟩, ⟨#[98]⟩, nmI k⟩ := by unfold idI; rw [if_pos h]
theorem key_at {k : Nat} (h : k < 60) : KeyI (idI k).k (idI k).s (idI k).n := keyI_of (idI_size h).1 (idI_size h).2.1 (idI_size h).2.2
theorem intKeyed : Keyed Tryd.prog 3 := int_keyed Tryd.underlying3
theorem zeroBool (w : World) : (zeroValue 4).run Tryd.prog w = .ok (.bool false) w := by kernel_rfl
theorem keyInt {n : Int} (h : 0 ≤ n ∧ n ≤ 1000000) : keyOf Tryd.prog 3 (.int .i64 n) = some (.int .i64 n) := keyOf_int_mk Tryd.underlying3 (WalkArith.wf_i64 (by omega))
def rowsB (d : List Int) : List MRow := d.map fun n => ([.int .i64 n], [.bool true])
def insB (d : List Int) (n : Int) : List Int := if n ∈ d then d else d ++ [n]
theorem insB_mem {d : List Int} {n x : Int} : x ∈ insB d n ↔ x ∈ d ∨ x = n := by
 unfold insB
 split
 ·rename_i h
  exact ⟨.inl, fun k => k.elim id fun e => e ▸ h⟩
 ·simp
theorem rowsB_put (d : List Int) (n : Int) : putR (rowsB d) [.int .i64 n] [.bool true] = rowsB (insB d n) := by
 unfold putR insB
 by_cases h : n ∈ d
 ·rw [if_pos h, if_pos ⟨_, List.mem_map.2 ⟨n, h, rfl⟩, rfl⟩]
  unfold rowsB
  rw [List.map_map]
  refine List.map_congr_left fun y _ => ?_
  simp only [Function.comp]
  split
  ·rename_i e; rw [e]
  ·rfl
 ·rw [if_neg h, if_neg]
  ·unfold rowsB
   rw [List.map_append]
   rfl
  ·rintro ⟨r, hr, hk⟩
   obtain ⟨x, hx, rfl⟩ := List.mem_map.1 hr
   simp at hk
   exact h (hk ▸ hx)
theorem rowsB_find (d : List Int) (n : Int) : Found (rowsB d) [.int .i64 n] (if n ∈ d then some [.bool true] else none) := by
 by_cases h : n ∈ d
 ·rw [if_pos h]
  exact List.mem_map.2 ⟨n, h, rfl⟩
 ·rw [if_neg h]
  intro r hr hk
  obtain ⟨x, hx, rfl⟩ := List.mem_map.1 hr
  simp at hk
  exact h (hk ▸ hx)
theorem rowsB_keys {d : List Int} (h : ∀ n ∈ d, 0 ≤ n ∧ n ≤ 1000000) : KeysOk Tryd.prog 3 (rowsB d) := fun r hr => by
 obtain ⟨x, hx, rfl⟩ := List.mem_map.1 hr
 exact ⟨_, _, rfl, keyInt (h x hx)⟩
theorem setB_m {d : List Int} (hd : ∀ n ∈ d, 0 ≤ n ∧ n ≤ 1000000) {n : Int} (hn : 0 ≤ n ∧ n ≤ 1000000) : MOp Tryd.prog (.set 26) [(1900102, [mcA (rowsB d)])] [.np 1900102 0, .int .i64 n, .bool true] [(1900102, [mcA (rowsB (insB d n))])] (.bool true) := by
 rw [← rowsB_put]
 exact mop_set (κ := [.int .i64 n]) (vc := [.bool true]) rfl Tryd.underlying26 intKeyed (rowsB_keys hd) rfl (keyInt hn) fun c hc => by
  rw [List.mem_singleton.1 hc]
  rfl
theorem getB_m {d : List Int} (hd : ∀ n ∈ d, 0 ≤ n ∧ n ≤ 1000000) {n : Int} (hn : 0 ≤ n ∧ n ≤ 1000000) : MOp Tryd.prog (.get 26 false) [(1900102, [mcA (rowsB d)])] [.np 1900102 0, .int .i64 n] [(1900102, [mcA (rowsB d)])] (.bool (decide (n ∈ d))) := by
 have h := mop_get (κ := [.int .i64 n]) (z := [.bool false]) (o := if n ∈ d then some [.bool true] else none) false (id := 1900102) rfl Tryd.underlying26 intKeyed (rowsB_keys hd) rfl (keyInt hn) zeroBool (fun σ => Rel1.bool _) (rowsB_find d n) (by
  split <;> (intro c hc; rw [List.mem_singleton.1 hc]; rfl))
 by_cases hm : n ∈ d
 ·rw [if_pos hm] at h
  rw [decide_eq_true hm]
  exact h
 ·rw [if_neg hm] at h
  rw [decide_eq_false hm]
  exact h
theorem newN_m : MS Tryd.prog 6 [] [npC] [(6, [.np 1900101 0, .int .i64 0, .lst .nil 1 [], .int .i64 (-1), .bool false, npC]), (1900101, [mcA []])] (.np 6 0) := by
 have hn : MOp Tryd.prog (.new 46) [] [] [(1900101, [mcA []])] (.np 1900101 0) := mop_new rfl
 refine MS.enter Tryd.func6 a_cluster_New_ok a_cluster_New_cb (by rfl) (by rfl) fun E hE => ?_
 show AK _ _ _ [.c b_cluster_New] _ _
 rw [b_cluster_New]
 refine kW ?_
 refine kQ [.s [] [(1900101, [mcA []])] (.np 1900101 0)] ?_
 refine kW ?_
 exact AK.ret ⟨⟨_, rfl, rfl⟩, ⟨_, rfl, rfl⟩, ⟨_, rfl, rfl⟩, trivial⟩
theorem newN_a : MS Tryd.prog 6 [] [npC] (cluFA 1000100 1900101 [] 0 (-1) false) (.np 1000100 0) := newN_m.ren rhoN rhoN_inj rhoN_mp
def swN (a b i : Nat) : Nat := if i = a then b else if i = b then a else i
theorem swN_inj {a b i j : Nat} (h : swN a b i = swN a b j) : i = j := by
 unfold swN at h
 repeat' split at h
 all_goals omega
theorem swN_mp {a b : Nat} (hab : isMp a = isMp b) (i : Nat) : isMp (swN a b i) = isMp i := by
 unfold swN
 split
 ·rename_i h; rw [h, hab]
 ·split
  ·rename_i h; rw [h, hab]
  ·rfl
def rhoP (i : Nat) : Nat := swN 2000000 1000100 (swN 2900001 1900101 (swN 2000001 1000101 (swN 1000001 1000102 i)))
def rhoQ (i : Nat) : Nat := swN 2000000 1000100 (swN 2900001 1900101 (swN 2000001 1000102 (swN 1000001 1000101 i)))
theorem rhoP_inj (i j : Nat) (h : rhoP i = rhoP j) : i = j := swN_inj (swN_inj (swN_inj (swN_inj h)))
theorem rhoQ_inj (i j : Nat) (h : rhoQ i = rhoQ j) : i = j := swN_inj (swN_inj (swN_inj (swN_inj h)))
theorem rhoP_mp (i : Nat) : isMp (rhoP i) = isMp i := by
 unfold rhoP
 rw [swN_mp (by rfl), swN_mp (by rfl), swN_mp (by rfl), swN_mp (by rfl)]
theorem rhoQ_mp (i : Nat) : isMp (rhoQ i) = isMp i := by
 unfold rhoQ
 rw [swN_mp (by rfl), swN_mp (by rfl), swN_mp (by rfl), swN_mp (by rfl)]
theorem renS_B {ρ : Nat → Nat} {c m q : Nat} (rows : List MRow) (last fuse : Int) (down : Bool) (l : List Int) (i : Nat × Nat) : renS ρ (cluFB c m q rows last fuse down l i) = cluFB (ρ c) (ρ m) (ρ q) rows last fuse down l i := by
 unfold renS
 simp only [List.map_cons, List.map_nil, ren_rowsJ]
 rfl
theorem failA (rows : List MRow) (last fuse : Int) (down : Bool) (n : Int) : MSX Tryd.prog 7 (cluFA 1000100 1900101 rows last fuse down) [.np 1000100 0, .lst .any 1 [[.int .i64 n]]] (cluFI [n]) (fun i => cluFB 1000100 1900101 1000101 rows last fuse down [n] i) (fun _ => .tup []) := by
 have h := (fail_nil rows last fuse down n).ren rhoQ rhoQ_inj rhoQ_mp
 simp only [renS_B] at h
 exact h
theorem failP (rows : List MRow) (last fuse : Int) (down : Bool) (l : List Int) (hl : l.length ≤ 1000000) (i : Nat × Nat) (hi : cluFI l i) (n : Int) : MSX Tryd.prog 7 (cluFB 1000100 1900101 1000101 rows last fuse down l i) [.np 1000100 0, .lst .any 1 [[.int .i64 n]]] (cluFI (l ++ [n])) (fun j => cluFB 1000100 1900101 1000102 rows last fuse down (l ++ [n]) j) (fun _ => .tup []) := by
 have h := (fail_more rows last fuse down l hl i hi n).ren rhoP rhoP_inj rhoP_mp
 simp only [renS_B] at h
 exact h
theorem failQ (rows : List MRow) (last fuse : Int) (down : Bool) (l : List Int) (hl : l.length ≤ 1000000) (i : Nat × Nat) (hi : cluFI l i) (n : Int) : MSX Tryd.prog 7 (cluFB 1000100 1900101 1000102 rows last fuse down l i) [.np 1000100 0, .lst .any 1 [[.int .i64 n]]] (cluFI (l ++ [n])) (fun j => cluFB 1000100 1900101 1000101 rows last fuse down (l ++ [n]) j) (fun _ => .tup []) := by
 have h := (fail_more rows last fuse down l hl i hi n).ren rhoQ rhoQ_inj rhoQ_mp
 simp only [renS_B] at h
 exact h
end Go.Proofs.YtdncaodccgfniaaDoor
