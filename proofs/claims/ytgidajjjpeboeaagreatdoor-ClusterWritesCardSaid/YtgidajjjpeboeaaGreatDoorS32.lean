/-
  The texts that the claim wants, one behind the other: part 32.
-/
import Derived.Test.YtgidajjjpeboeaaGreatDoorS31
import Derived.Test.YtgidajjjpeboeaaGreatDoorChecked
import Derived.KernelRfl
set_option linter.unusedSimpArgs false
set_option linter.unusedVariables false
namespace Go.Proofs.YtgidajjjpeboeaaGreatDoor
open Go.RowKit
theorem obI_step {has la lb done : List CEnt} {e : CEnt} {cap m cap' m' : Nat} (h : obI has (la ++ e :: lb, done, cap, m)) (hc : (rowsO (done.map obE) ++ [obC (obE e)]).length ≤ cap') (hl : ((rowsO (done.map obE) ++ [obC (obE e)]).flatten ++ List.replicate m' AV.top).length = cap' * 9) : obI has (la ++ lb, done ++ [e], cap', m') := by
 obtain ⟨h1, h2, h3⟩ := h
 refine ⟨?_, ?_, fun _ => ?_⟩
 ·refine List.Perm.trans ?_ h1
  simp only
  rw [List.append_assoc, List.append_assoc]
  refine List.Perm.append_left _ ?_
  rw [List.cons_append, ← List.append_assoc]
  exact List.perm_append_singleton _ _
 ·simp only [List.length_append, List.length_cons, List.length_nil, rowsO_len, List.length_map] at hc ⊢
  omega
 ·simp only [List.map_append, List.map_cons, List.map_nil]
  rw [rowsO_snoc]
  exact hl
theorem rowsE_append (a b : List CEnt) : rowsE a ++ rowsE b = rowsE (a ++ b) := by unfold rowsE; rw [List.map_append]
theorem noFrs_rowsO (l : List Ob) (m : Nat) : ((rowsO l).flatten ++ List.replicate m AV.top).all AV.noFrs = true := by
 rw [List.all_eq_true]
 intro c hc
 rcases List.mem_append.1 hc with hc | hc
 ·obtain ⟨r, hr, hcr⟩ := List.mem_flatten.1 hc
  obtain ⟨o, _, rfl⟩ := List.mem_map.1 hr
  have := obC_clean o c hcr
  cases c <;> first | rfl | cases this
 ·rw [(List.mem_replicate.1 hc).2]; rfl
theorem clean_inS {a : AV} (h : a.clean = true) (ids : List Nat) : a.inS ids = true := by
 cases a with
 | lst t e l => cases t <;> first | rfl | cases h
 | _ => first | rfl | cases h
theorem map_clean {g : AV → AV} (hg : ∀ a : AV, a.clean = true → g a = a) (l : List Ob) (m : Nat) : ((rowsO l).flatten ++ List.replicate m AV.top).map g = (rowsO l).flatten ++ List.replicate m AV.top := by
 rw [show ((rowsO l).flatten ++ List.replicate m AV.top).map g = ((rowsO l).flatten ++ List.replicate m AV.top).map id from List.map_congr_left fun c hc => ?_, List.map_id]
 rcases List.mem_append.1 hc with hc | hc
 ·obtain ⟨r, hr, hcr⟩ := List.mem_flatten.1 hc
  obtain ⟨o, _, rfl⟩ := List.mem_map.1 hr
  exact hg c (obC_clean o c hcr)
 ·rw [(List.mem_replicate.1 hc).2]; exact hg _ rfl
theorem clean_told {a : AV} (h : a.clean = true) : a.told = a := by
 cases a with
 | lst t e l => cases t <;> first | rfl | cases h
 | _ => first | rfl | cases h
theorem clean_clr {a : AV} (N : List Nat) (h : a.clean = true) : clrC N a = a := by
 cases a with
 | lst t e l => rfl
 | _ => first | rfl | cases h
theorem clean_ren {a : AV} (ρ : Nat → Nat) (h : a.clean = true) : a.ren ρ = a := by
 cases a with
 | lst t e l => rfl
 | _ => first | rfl | cases h
theorem inS_rowsO (l : List Ob) (m : Nat) (ids : List Nat) : ((rowsO l).flatten ++ List.replicate m AV.top).all (AV.inS ids) = true := by
 rw [List.all_eq_true]
 intro c hc
 rcases List.mem_append.1 hc with hc | hc
 ·obtain ⟨r, hr, hcr⟩ := List.mem_flatten.1 hc
  obtain ⟨o, _, rfl⟩ := List.mem_map.1 hr
  have := obC_clean o c hcr
  exact clean_inS this ids
 ·rw [(List.mem_replicate.1 hc).2]; rfl
theorem ren_rowsO (ρ : Nat → Nat) (l : List Ob) (m : Nat) : ((rowsO l).flatten ++ List.replicate m AV.top).map (AV.ren ρ) = (rowsO l).flatten ++ List.replicate m AV.top := map_clean (fun a h => clean_ren ρ h) l m
theorem okS_row {cs : List AV} (h : cs.all (AV.inS [1000001]) = true) (b : Nat → Option (List AV × Bool)) : (okS [1000001] [(1000001, cs)] (.tup []) && freeIds b (newIds [1000001] [(1000001, cs)])) = true := by
 unfold okS
 show ((true && (cs.all (AV.inS [1000001]) && true)) && true && true) = true
 rw [h]
 rfl
theorem sortO_mr (l : List Ob) (hnd : (l.map obId).Nodup) (hlen : l.length ≤ 1000000) (cap m : Nat) (hcap : l.length ≤ cap) (hz : ((rowsO l).flatten ++ List.replicate m AV.top).length = cap * 9) :
  MS Tryz.prog 39 [(1000001, (rowsO l).flatten ++ List.replicate m AV.top)] [.sli 1000001 9 l.length cap, .fn 40 []] [(1000001, (rowsO (sortO l)).flatten ++ List.replicate m AV.top)] (.tup []) := by
 have h := (sortO_ms l hnd hlen cap m hcap hz).ren rhoO rhoO_inj rhoO_mp
 unfold renS at h
 simp only [List.map_cons, List.map_nil, ren_rowsO] at h
 exact h
def depB (ds : List (List Nat)) : Nat → Nat → Nat → Bool
 | 0, _, _ => false
 | n + 1, j, i => match ds[j]? with
  | some l => l.any fun e => Nat.beq e i || depB ds n e i
  | none => false
theorem depsOf_at (ops : Array Oper) (j : Nat) : (depsOf ops)[j]? = (ops[j]?).map fun o => (o.after.toList.filter fun e => Region.binds .any e).map (·.on) := by
 rw [depsOf, List.getElem?_map, Array.getElem?_toList]
theorem depB_eq (ops : Array Oper) : ∀ (n j i : Nat), depB (depsOf ops) n j i = depN ops n j i
 | 0, _, _ => rfl
 | n + 1, j, i => by
  unfold depB depN
  rw [depsOf_at]
  cases ops[j]? with
  | none => rfl
  | some o =>
   simp only [Option.map_some]
   rw [List.any_map, List.any_filter, ← Array.any_toList]
   congr 1
   funext e
   simp only [Function.comp]
   rw [depB_eq ops n e.on i]
def freeD (ds : List (List Nat)) (S : List (GI × Option RS)) (listed : Array Bool) (i : Nat) : Bool :=
 match S[i]? with
 | some (xi, _) => (List.range ds.length).all fun j => Nat.beq j i || listed.getD j true || depB ds ds.length j i || (match S[j]? with
  | some (xj, _) => indep xi xj
  | none => false)
 | none => false
def anyE (P : Program) (ds : List (List Nat)) (S : List (GI × Option RS)) (R : Fr → St → Prop) : Nat → Array Bool → Fr → St → Prop
 | 0, listed, fr, st => match rdy ds listed with
  | [] => R fr st
  | _ => False
 | n + 1, listed, fr, st => match rdy ds listed with
  | [] => R fr st
  | l => match l.find? (freeD ds S listed) with
   | some i => match S[i]? with
    | none => False
    | some (x, rs) => match gstep P x rs fr st with
     | none => False
     | some (fr', st', p) => p ∧ anyE P ds S R n (listed.setIfInBounds i true) fr' st'
   | none => allP (fun i => match S[i]? with
    | none => False
    | some (x, rs) => match gstep P x rs fr st with
     | none => False
     | some (fr', st', p) => p ∧ anyE P ds S R n (listed.setIfInBounds i true) fr' st') l
theorem anyA_of_anyE {P : Program} {ops : Array Oper} {S : List (GI × Option RS)} {R : Fr → St → Prop} : ∀ (n : Nat) (listed : Array Bool) (fr : Fr) (st : St), ClosedL ops listed → anyE P (depsOf ops) S R n listed fr st → anyA P ops S R n listed fr st
 | 0, listed, fr, st, _, h => by
  unfold anyE at h
  split at h
  ·rename_i he
   refine ⟨List.eq_nil_iff_forall_not_mem.2 fun j hj => ?_, h⟩
   have := mem_rdy.2 hj
   rw [he] at this
   cases this
  ·exact h.elim
 | n + 1, listed, fr, st, hcl, h => by
  unfold anyE at h
  split at h
  ·rename_i he
   refine ⟨fun _ => h, fun j hj => ?_⟩
   have := mem_rdy.2 hj
   rw [he] at this
   cases this
  ·rename_i hne
   split at h
   ·rename_i i hfi
    have hir := mem_rdy.1 (List.mem_of_find?_eq_some hfi)
    have hfree := List.find?_some hfi
    split at h
    ·exact h.elim
    ·rename_i x rs hS
     split at h
     ·exact h.elim
     ·rename_i fr' st' p hg
      unfold freeD at hfree
      rw [hS] at hfree
      simp only at hfree
      refine anyA_first hS n listed fr fr' st st' p hcl (fun j xj rj oj hSj hoj hji hun hno => ?_) hir hg h.1 (anyA_of_anyE n _ fr' st' (hcl.set hir) h.2)
      have hj : j < (depsOf ops).length := by
       have := (Array.getElem?_eq_some_iff.1 hoj).1
       simpa [depsOf] using this
      have hz : (depsOf ops).length = ops.size := by simp [depsOf]
      have h3 := List.all_eq_true.1 hfree j (by simpa using hj)
      rw [hSj, depB_eq, hz] at h3
      simp only [Bool.or_eq_true] at h3
      rcases h3 with ((h3 | h3) | h3) | h3
      ·exact absurd (Nat.eq_of_beq_eq_true h3) hji
      ·rw [hun] at h3; cases h3
      ·rw [hno] at h3; cases h3
      ·exact h3
   ·refine ⟨fun h0 => ?_, fun j hj => ?_⟩
    ·exfalso
     refine hne (List.eq_nil_iff_forall_not_mem.2 fun j hj => ?_)
     have := mem_rdy.1 hj
     rw [h0] at this
     cases this
    ·have h2 := allP_mem h j (mem_rdy.2 hj)
     split at h2
     ·exact h2.elim
     ·rename_i x rs hS
      split at h2
      ·exact h2.elim
      ·rename_i fr' st' p hg
       exact ⟨x, rs, fr', st', p, hS, hg, h2.1, anyA_of_anyE n _ fr' st' (hcl.set hj) h2.2⟩
theorem AK.regaE {P : Program} {E : Env} {Q : Exit → Fr → St → Prop} {k : List AItem} {fr : Fr} {st : St} (hm : P.follows .mixedOrders = true) {l : List GI} {ds : List (List Nat)} (rs : List RS) (f0 : Fr) (s0 : St) (hA : anyE P ds (mkS l rs) (fun f s => Weak f s f0 s0) ds.length (Array.replicate ds.length false) fr st) (h : AK P E Q k f0 s0) : AK P E Q (.c (.rega l ds) :: k) fr st := by
 intro hd mu c G ac w hc _ hC
 cases c with
 | region id ops dr =>
  simp only [codeAC] at hc
  split at hc
  ·rename_i l' hl
   split at hc
   ·split at hc <;> cases hc
   ·split at hc
    ·cases hc
     refine wp_region_any hm ?_
     have hz : (depsOf ops).length = ops.size := by simp [depsOf]
     rw [hz] at hA
     refine wpAny_of_anyA (mkS_map _ _) (at_of hl) hd (fun f s G' a' w' hR hc => ?_) _ _ fr st G ac _ (hC.same ?_) (anyA_of_anyE _ _ _ _ (fun j o _ hj => by simp [Array.getD_eq_getD_getElem?, Array.getElem?_replicate] at hj; split at hj <;> simp at hj) hA)
     ·obtain ⟨G2, hC2⟩ := hR E G' a' w' hc
      exact ⟨G2, f0, s0, hC2, h⟩
     ·exact (Below.refl w.heap.size w).drew
    ·cases hc
  ·cases hc
 | cond x t e => simp only [codeAC] at hc; split at hc <;> cases hc
 | seq x y => simp only [codeAC] at hc; split at hc <;> cases hc
 | block id b => simp only [codeAC] at hc; split at hc <;> cases hc
 | loop b => simp only [codeAC] at hc; split at hc <;> cases hc
 | _ => cases hc
end Go.Proofs.YtgidajjjpeboeaaGreatDoor
namespace Go.Proofs.YtgidajjjpeboeaaGreatDoor
open Go.RowKit Go.Maps Go.MapKept Go.ChangeMaps
abbrev Clu.nf (cl : Clu) : Clu := ⟨cl.has, cl.last, [], 0, cl.down⟩
theorem put_r (u : Value) (hu1 : u.oneCell' = true) (cl : Clu) (hk : CluK cl.nf) {i : OId} (hi : KeyI i.k i.s i.n) (v : V) (hv : v.size ≤ 1000000) : MS Tryz.prog 45 (cluU u 2000000 2900001 cl) [.np 2000000 0, .agg (idA i), (vA (v))] (cluU u 2000000 2900001 (cl.put i v)) (.tup []) := by
 have hc : AC Tryz.prog 38 [(vA (v))] ((vA (v))) := clone_ok v (by omega)
 have hl := hk.last
 obtain ⟨has, last, fails, fuse, down⟩ := cl
 have e1 : last + 1 = IntKind.i64.wrap (last + 1) := (wrap_in (by dsimp only at hl; omega) (by dsimp only at hl; omega)).symm
 have hs := setE_g _ hk hi v (last + 1)
 unfold Clu.put
 dsimp only at hs ⊢
 rw [e1] at hs ⊢
 refine MS.enter Tryz.func45 a_cluster_Cluster_put_ok a_cluster_Cluster_put_cb (by rfl) (by rfl) fun E hE => ?_
 show AK _ _ _ [.c b_cluster_Cluster_put] _ _
 rw [b_cluster_Cluster_put]
 refine kW ?_
 refine kQ [.v ((vA (v))), .s [2900001] [(2900001, [mcA (rowsE (putE has ⟨i, v, IntKind.i64.wrap (last + 1)⟩))])] (.bool true)] ?_
 refine kW ?_
 show RQS _ _ _ .normal _ _
 exact ⟨⟨_, rfl, rfl⟩, ⟨_, rfl, rfl⟩, ⟨_, rfl, rfl⟩, trivial⟩
theorem fuse_r (u : Value) (hu1 : u.oneCell' = true) (cl : Clu) (n : Int) : MS Tryz.prog 25 (cluU u 2000000 2900001 cl) [.np 2000000 0, .int .i64 n] (cluU u 2000000 2900001 { cl with fuse := n }) (.tup []) := by
 obtain ⟨has, last, fails, fuse, down⟩ := cl
 refine MS.enter Tryz.func25 a_cluster_Cluster_Fuse_ok a_cluster_Cluster_Fuse_cb (by rfl) (by rfl) fun E hE => ?_
 show AK _ _ _ [.c b_cluster_Cluster_Fuse] _ _
 rw [b_cluster_Cluster_Fuse]
 refine kS ?_
 refine kP [] ?_ ?_
 ·((repeat' apply And.intro) <;> first | exact kD | (intro hgd; refine ⟨?_, kG⟩; (repeat' apply And.intro) <;> first | exact kD | skip) | skip)
  ·exact fun g o => someClu true g o
 refine kCt ?_
 refine kQ [] ?_
 show RQS _ _ _ .normal _ _
 exact ⟨⟨_, rfl, rfl⟩, ⟨_, rfl, rfl⟩, ⟨_, rfl, rfl⟩, trivial⟩
set_option maxHeartbeats 20000000 in
theorem get_r (u : Value) (hu1 : u.oneCell' = true) (cl : Clu) (hk : CluK cl.nf) {i : OId} (hi : KeyI i.k i.s i.n) :
  MS Tryz.prog 28 (cluU u 2000000 2900001 cl) [.np 2000000 0, .agg (idA i)] (cluU u 2000000 2900001 cl) (.tup [(vA ((cl.get i).1)), .int .i64 (cl.get i).2.1, .int .i64 (cl.get i).2.2]) := by
 have ha := add_a 0
 have hsz := hk.ok.size
 have hng := fun h => getN_g cl.nf hk hi h
 have hsg := fun e h => getS_g cl.nf hk hi (e := e) h
 unfold Clu.get
 obtain ⟨has, last, fails, fuse, down⟩ := cl
 refine MS.enter Tryz.func28 a_cluster_Cluster_Get_ok a_cluster_Cluster_Get_cb (by rfl) (by rfl) fun E hE => ?_
 show AK _ _ _ [.c b_cluster_Cluster_Get] _ _
 rw [b_cluster_Cluster_Get]
 refine kW ?_
 refine kP [] ?_ ?_
 ·((repeat' apply And.intro) <;> first | exact kD | (intro hgd; refine ⟨?_, kG⟩; (repeat' apply And.intro) <;> first | exact kD | skip) | skip)
  ·exact fun g o => someClu false g o
 refine kCf ?_
 refine kW ?_
 cases down with
 | true =>
  refine kCt ?_
  refine kS ?_
  refine kA fw0 ?_
  refine AK.weak (Weak.introN (L := [(4, .ptr 4 0), (5, .int .i64 0), (6, .int .i64 31)]) (BL := [(4, nullC, false), (2000000, [.np 2900001 0, .int .i64 last, .raw u, .int .i64 fuse, .bool true, npC], false), (2900001, [mcA (rowsE has)], false)]) ⟨kI, kI, kI, trivial⟩ ⟨⟨_, rfl, .refl _, .refl _, .refl _, .refl _, .any .nil 6 [], .any .nil 7 [], trivial⟩, kJ, kJ, trivial⟩ rfl rfl ⟨rfl, rfl, trivial⟩) ?_
  exact AK.ret ⟨⟨_, rfl, rfl⟩, ⟨_, rfl, rfl⟩, ⟨_, rfl, rfl⟩, trivial⟩
 | false =>
  refine kCf ?_
  refine kW ?_
  refine kQ [.v (.int .i64 0)] ?_
  refine kW ?_
  refine AK.weak (Weak.introN (L := [(0, .np 2000000 0), (3, .ptr 3 0), (4, .ptr 4 0)]) (BL := [(3, idA i, false), (4, nullC, false), (2000000, [.np 2900001 0, .int .i64 last, .raw u, .int .i64 fuse, .bool false, npC], false), (2900001, [mcA (rowsE has)], false)]) ⟨kI, kI, kI, trivial⟩ ⟨kJ, ⟨_, rfl, .refl _, .refl _, .refl _, .refl _, .any .nil 6 [], .any .nil 7 [], trivial⟩, kJ, kJ, trivial⟩ rfl rfl ⟨rfl, rfl, trivial⟩) ?_
  cases hfd : Clu.find ⟨has, last, fails, fuse, false⟩ i with
  | none =>
   have hg := hng hfd
   refine AK.regaE fw0 [.s [2900001] [(2900001, [mcA (rowsE has)])] (.tup [.agg zE, .bool false])] (frOf [(4, .ptr 4 0), (8, .bool false)]) ⟨boxOf [(4, nullC, false), (2000000, [.np 2900001 0, .int .i64 last, .raw u, .int .i64 fuse, .bool false, npC], false), (2900001, [mcA (rowsE has)], false)], fun _ => 0⟩ ?_ ?_
   ·(repeat' (first | exact trivial | apply And.intro))
    all_goals first | (show _ = _; exact rfl) | (show MOp _ _ _ _ _ _; exact hg) | exact Weak.introN ⟨kI, kI, trivial⟩ ⟨kJ, kJ, kJ, trivial⟩ rfl rfl ⟨rfl, rfl, trivial⟩
   refine kW ?_
   refine kCt ?_
   refine kS ?_
   refine kA fw0 ?_
   refine AK.weak (Weak.introN (L := [(4, .ptr 4 0), (5, .int .i64 0), (6, .int .i64 3)]) (BL := [(4, nullC, false), (2000000, [.np 2900001 0, .int .i64 last, .raw u, .int .i64 fuse, .bool false, npC], false), (2900001, [mcA (rowsE has)], false)]) ⟨kI, kI, kI, trivial⟩ ⟨⟨_, rfl, .refl _, .refl _, .refl _, .refl _, .any .nil 6 [], .any .nil 7 [], trivial⟩, kJ, kJ, trivial⟩ rfl rfl ⟨rfl, rfl, trivial⟩) ?_
   exact AK.ret ⟨⟨_, rfl, rfl⟩, ⟨_, rfl, rfl⟩, ⟨_, rfl, rfl⟩, trivial⟩
  | some e =>
   have hg := hsg e hfd
   have hez : e.body.size ≤ 1000000 := by
    unfold Clu.find at hfd
    exact hsz e (List.mem_of_find?_eq_some hfd)
   have hc : AC Tryz.prog 38 [(vA (e.body))] ((vA (e.body))) := clone_ok e.body (by omega)
   refine AK.regaE fw0 [.s [2900001] [(2900001, [mcA (rowsE has)])] (.tup [.agg (enV e.body e.ver), .bool true])] (frOf [(0, .np 2000000 0), (4, .ptr 4 0), (7, .ptr 7 0), (8, .bool true)]) ⟨boxOf [(4, nullC, false), (7, enV e.body e.ver, false), (2000000, [.np 2900001 0, .int .i64 last, .raw u, .int .i64 fuse, .bool false, npC], false), (2900001, [mcA (rowsE has)], false)], fun _ => 0⟩ ?_ ?_
   ·(repeat' (first | exact trivial | apply And.intro))
    all_goals first | (show _ = _; exact rfl) | (show MOp _ _ _ _ _ _; exact hg) | exact Weak.introN ⟨kI, kI, kI, kI, trivial⟩ ⟨kJ, kJ, kJ, kJ, trivial⟩ rfl rfl ⟨rfl, rfl, trivial⟩
   refine kW ?_
   refine kCf ?_
   refine kW ?_
   refine AK.regaE fw0 [.v ((vA (e.body)))] (frOf [(4, .ptr 4 0), (5, .int .i64 e.ver), (6, .int .i64 0)]) ⟨boxOf [(4, (vC (e.body)), false), (2000000, [.np 2900001 0, .int .i64 last, .raw u, .int .i64 fuse, .bool false, npC], false), (2900001, [mcA (rowsE has)], false)], fun _ => 0⟩ ?_ ?_
   ·(repeat' (first | exact trivial | apply And.intro))
    all_goals first | (show _ = _; exact rfl) | (show AC _ _ _ _; exact hc) | exact Weak.introN ⟨kI, kI, kI, trivial⟩ ⟨kJ, kJ, kJ, trivial⟩ rfl rfl ⟨rfl, rfl, trivial⟩
   refine kW ?_
   exact AK.ret ⟨⟨_, rfl, rfl⟩, ⟨_, rfl, rfl⟩, ⟨_, rfl, rfl⟩, trivial⟩
set_option maxHeartbeats 20000000 in
theorem edit_r (u : Value) (hu1 : u.oneCell' = true) (cl : Clu) (hk : CluK cl.nf) {i : OId} (hi : KeyI i.k i.s i.n) (v : V) (hv : v.size ≤ 1000000) (wr : Int) (hw : AC Tryz.prog 42 [.agg (idA i), (vA (v))] (.int .i64 wr)) :
  MS Tryz.prog 18 (cluU u 2000000 2900001 cl) [.np 2000000 0, .agg (idA i), (vA (v))] (cluU u 2000000 2900001 (cl.edit wr i v).2) (.int .i64 (cl.edit wr i v).1) := by
 have hd := del_g cl.nf hk hi
 have hp := put_r u hu1 cl hk hi v hv
 unfold Clu.edit
 refine MS.enter Tryz.func18 a_cluster_Cluster_Edit_ok a_cluster_Cluster_Edit_cb (by rfl) (by rfl) fun E hE => ?_
 show AK _ _ _ [.c b_cluster_Cluster_Edit] _ _
 rw [b_cluster_Cluster_Edit]
 refine kW ?_
 refine kP [] ?_ ?_
 ·((repeat' apply And.intro) <;> first | exact kD | (intro hgd; refine ⟨?_, kG⟩; (repeat' apply And.intro) <;> first | exact kD | skip) | skip)
  ·exact fun g o => someClu false g o
 refine kCf ?_
 refine kW ?_
 refine kQ [.v (.int .i64 wr)] ?_
 refine kC (fun hb => ?_) fun hb => ?_
 ·have h1 : wr ≠ 0 := by simpa using hb
  rw [if_pos h1]
  refine kW ?_
  refine kQ [.v (.int .i64 wr)] ?_
  refine kW ?_
  exact AK.ret ⟨⟨_, rfl, rfl⟩, ⟨_, rfl, rfl⟩, ⟨_, rfl, rfl⟩, trivial⟩
 have h1 : ¬ wr ≠ 0 := by simpa using hb
 rw [if_neg h1]
 clear hb
 refine kW ?_
 refine kC (fun hb => ?_) fun hb => ?_
 ·have h2 : v.kind = 0 := by
   have : (v.kind : Int) = 0 := by simpa using hb
   omega
  rw [if_pos h2]
  refine kW ?_
  refine kQ [.s [2900001] [(2900001, [mcA (rowsE (cl.has.filter fun e => decide (e.id ≠ i)))])] (.tup [])] ?_
  refine kW ?_
  exact AK.ret ⟨⟨_, rfl, rfl⟩, ⟨_, rfl, rfl⟩, ⟨_, rfl, rfl⟩, trivial⟩
 ·have h2 : v.kind ≠ 0 := by
   have : ¬ (v.kind : Int) = 0 := by simpa using hb
   omega
  rw [if_neg h2]
  refine kW ?_
  refine kQ [.s [2000000, 2900001] (cluU u 2000000 2900001 (cl.put i v)) (.tup [])] ?_
  refine kW ?_
  exact AK.ret ⟨⟨_, rfl, rfl⟩, ⟨_, rfl, rfl⟩, ⟨_, rfl, rfl⟩, trivial⟩
set_option maxHeartbeats 20000000 in
theorem objects_r (u : Value) (hu1 : u.oneCell' = true) (cl : Clu) (hok : CluOk cl) : MS Tryz.prog 11 (cluU u 2000000 2900001 cl) [.np 2000000 0] (cluU u 2000000 2900001 cl) (.lst .any 9 (rowsO cl.objects)) := by
 obtain ⟨has, last, fails, fuse, down⟩ := cl
 obtain ⟨hnd, hsz, hlen⟩ := hok
 dsimp only at hnd hsz hlen
 refine MS.enter Tryz.func11 a_cluster_Cluster_Objects_ok a_cluster_Cluster_Objects_cb (by rfl) (by rfl) fun E hE => ?_
 show AK _ _ _ [.c b_cluster_Cluster_Objects] _ _
 rw [b_cluster_Cluster_Objects]
 refine kS ?_
 refine kA fw0 ?_
 refine kS ?_
 refine kS ?_
 refine kP [] ?_ ?_
 ·(repeat' apply And.intro) <;> first | exact fun g o => someClu false g o | exact kD
 refine kCf ?_
 (repeat (first | refine kA fw0 ?_ | (apply kS; refine kA fw0 ?_) | apply kN | apply kB | apply kL))
 refine kS ?_
 refine AK.mrange 2900001 (rowsE has) (cluU u 2000000 2900001 ⟨has, last, fails, fuse, down⟩) [] obJ (obI has) (fun i => rowsE i.1) (has, [], 0, 0) ?_ ?_ rfl ?_ ?_ ?_ ?_ ?_ ?_ ?_ ?_
 ·(repeat' apply And.intro) <;> exact kD
 ·exact ⟨by simp, by simp, fun h => absurd rfl h⟩
 ·intro x hx
  rcases List.mem_cons.1 hx with rfl | hx
  ·rfl
  ·rw [List.mem_singleton.1 hx]; rfl
 ·intro x hx
  rcases List.mem_cons.1 hx with rfl | hx
  ·show 1000000 ≤ 2000000; omega
  ·rw [List.mem_singleton.1 hx]; show 1000000 ≤ 2900001; omega
 ·intro x hx c hc
  rcases List.mem_cons.1 hx with rfl | hx
  ·simp at hc
   rcases hc with rfl | rfl | rfl | rfl | rfl | rfl <;> rfl
  ·rw [List.mem_singleton.1 hx] at hc
   rw [List.mem_singleton.1 hc]
   rfl
 ·exact List.mem_cons_of_mem _ (List.mem_singleton.2 rfl)
 ·intro r
  exact Weak.introN (L := [(3, .lst .nil 9 []), (12, itA r)]) (BL := []) ⟨kI, kI, trivial⟩ trivial rfl rfl trivial
 ·intro r ⟨left, done, cap, m⟩
  cases done <;> rfl
 ·intro E2 r ⟨left, done, cap, m⟩ la row lb hE2 hI hL hent
  obtain ⟨la', e, lb', rfl, rfl, rfl, rfl⟩ := rowsE_split hL
  have hez : e.body.size ≤ 1000000 := hsz e (hI.1.mem_iff.1 (by simp))
  have hdl : done.length ≤ 1000000 := by have := hI.1.length_eq; simp at this; omega
  have hcl : AC Tryz.prog 38 [(vA (e.body))] ((vA (e.body))) := clone_ok e.body (by omega)
  have hnew : ∀ cap m, (rowsO (done.map obE) ++ [obC (obE e)]).length ≤ cap → ((rowsO (done.map obE) ++ [obC (obE e)]).flatten ++ List.replicate m AV.top).length = cap * 9 → obI has (la' ++ lb', done ++ [e], cap, m) := fun cap' m' h1 h2 => obI_step hI h1 h2
  cases done with
  | nil =>
   refine ⟨[], _, _, _, _, rfl, trivial, ?_⟩
   refine kS ?_
   refine kCt ?_
   refine kN ?_
   refine kB ?_
   refine kS ?_
   refine AK.ent (rs := []) hent rfl rfl ?_ ?_
   ·(repeat' apply And.intro) <;> exact kD
   refine kP [.v ((vA (e.body))), .m [] []] ?_ ?_
   ·(repeat' apply And.intro) <;> first | exact hcl | exact kD
   refine kL ?_
   refine AK.nil ?_
   refine MQ_open 3 25 1000001 rfl (by omega) rfl fun cap' m' h1 h2 => ⟨(la' ++ lb', [e], cap', m'), hnew cap' m' h1 h2, by rw [rowsE_append], ?_⟩
   exact Weak.introN (L := [(3, .sli 1000001 9 1 cap'), (12, itA r)]) (BL := [(1000001, (rowsO ([e].map obE)).flatten ++ List.replicate m' AV.top, false)]) ⟨kI, kI, trivial⟩ ⟨kJ, trivial⟩ rfl rfl ⟨noFrs_rowsO _ _, trivial⟩
  | cons d ds =>
   refine ⟨[], _, _, _, _, rfl, trivial, ?_⟩
   refine kS ?_
   refine kCt ?_
   refine kN ?_
   refine kB ?_
   refine kS ?_
   refine AK.ent (rs := []) hent rfl rfl ?_ ?_
   ·(repeat' apply And.intro) <;> exact kD
   have hz := hI.2.2 (by simp)
   dsimp only at hz
   have hol : (rowsO ((d :: ds).map obE)).length = ds.length + 1 := by rw [rowsO_len, List.length_map]; rfl
   refine kP [.v ((vA (e.body))), .m (rowsO ((d :: ds).map obE)) []] ?_ ?_
   ·(repeat' apply And.intro) <;> first | exact hcl | exact kD | exact ⟨_, rfl⟩ | exact hz | exact (rowsO_ok _).2 | exact (rowsO_ok _).1 | exact hol.symm | (rw [hol]; simp only [List.length_cons, List.length_nil] at *; omega)
   refine kL ?_
   refine AK.nil ?_
   refine MQ_open 3 25 1000001 rfl (by omega) rfl fun cap' m' h1 h2 => ⟨(la' ++ lb', d :: ds ++ [e], cap', m'), hnew cap' m' h1 h2, by rw [rowsE_append], ?_⟩
   refine Weak.introN (L := [(3, .sli 1000001 9 ((ds ++ [e]).length + 1) cap'), (12, itA r)]) (BL := [(1000001, (rowsO ((d :: (ds ++ [e])).map obE)).flatten ++ List.replicate m' AV.top, false)]) ⟨⟨_, rfl, .of_eq ?_⟩, kI, trivial⟩ ⟨⟨_, rfl, leL_of_eq ?_⟩, trivial⟩ rfl rfl ⟨noFrs_rowsO _ _, trivial⟩
   ·show AV.sli 1000001 9 (rowsO ((d :: ds).map obE) ++ [obC (obE e)]).length cap' = _
    rw [List.length_append, hol, List.length_append]
    rfl
   ·show (rowsO ((d :: ds).map obE) ++ [obC (obE e)]).flatten ++ List.replicate m' AV.top = _
    rw [← rowsO_snoc, show d :: (ds ++ [e]) = (d :: ds) ++ [e] from rfl, List.map_append]
    rfl
 ·intro E2 r ⟨left, done, cap, m⟩ hE2 hI hL
  have hl : left = [] := by
   unfold rowsE at hL
   exact List.map_eq_nil_iff.1 hL
  subst hl
  have hperm : done.Perm has := by have := hI.1; simpa using this
  have hobj : sortO (done.map obE) = sortO (has.map obE) := sortO_one (obE_nd ((hperm.map _).nodup_iff.2 hnd)) (hperm.map obE)
  cases done with
  | nil =>
   refine ⟨[], _, _, _, _, rfl, trivial, ?_⟩
   refine kS ?_
   refine kCf ?_
   refine AK.exitMQ ?_
   refine kW ?_
   have hsn := sortNil_a (.fn 40 []) rfl
   refine kQ [.v (.tup [])] ?_
   refine kW ?_
   have ho : rowsO (Clu.objects ⟨has, last, fails, fuse, down⟩) = [] := by
    unfold Clu.objects
    rw [← hobj]
    unfold sortO
    rw [List.map_nil, List.mergeSort_nil]
    rfl
   rw [ho]
   refine AK.ret ⟨⟨_, rfl, rfl⟩, ⟨_, rfl, rfl⟩, ⟨_, rfl, rfl⟩, trivial⟩
  | cons d ds =>
   refine ⟨[], _, _, _, _, rfl, trivial, ?_⟩
   refine kS ?_
   refine kCf ?_
   refine AK.exitMQ ?_
   have hz := hI.2.2 (by simp)
   have hcp := hI.2.1
   dsimp only at hz hcp
   have hol : ((d :: ds).map obE).length = ds.length + 1 := by simp
   have hsl : (sortO ((d :: ds).map obE)).length = ds.length + 1 := by rw [(sortO_perm _).length_eq]; exact hol
   have hdl : ds.length + 1 ≤ 1000000 := by have := hperm.length_eq; simp at this; omega
   have hS := sortO_mr ((d :: ds).map obE) (obE_nd ((hperm.map _).nodup_iff.2 hnd)) (by rw [hol]; exact hdl) cap m (by rw [hol]; simpa using hcp) hz
   have hC := RowCs.mk_ (rowsO_ok (sortO ((d :: ds).map obE))) (cap := cap) (m := m) (by rw [rowsO_len, hsl]; simpa using hcp) (by
    rw [List.length_append, rowsO_flen, hsl]
    rw [List.length_append, rowsO_flen, hol] at hz
    exact hz)
   have hok := okS_row (inS_rowsO (sortO ((d :: ds).map obE)) m [1000001])
   rw [hol] at hS
   refine AK.weak (Weak.introN (L := [(3, .sli 1000001 9 (ds.length + 1) cap)]) (BL := [(1000001, (rowsO ((d :: ds).map obE)).flatten ++ List.replicate m AV.top, false), (2000000, [.np 2900001 0, .int .i64 last, .raw u, .int .i64 fuse, .bool down, npC], false), (2900001, [mcA (rowsE has)], false)]) ⟨kI, trivial⟩ ⟨⟨_, rfl, leL_of_eq (map_clean (fun a h => clean_clr _ h) _ m)⟩, kJ, kJ, trivial⟩ rfl rfl ⟨noFrs_rowsO _ _, rfl, rfl, trivial⟩) ?_
   refine kW ?_
   refine kP [.s [1000001] [(1000001, (rowsO (sortO ((d :: ds).map obE))).flatten ++ List.replicate m AV.top)] (.tup [])] ?_ ?_
   ·(repeat' apply And.intro) <;> first | exact hS | exact hok _ | (rw [map_clean (fun a h => clean_told h)]; exact hS) | exact kD
   refine kW ?_
   refine AK.fz 1000001 rfl ?_
   refine AK.weak (Weak.introN (L := [(2, .lst .any 9 (rowsO (sortO ((d :: ds).map obE))))]) (BL := [(2000000, [.np 2900001 0, .int .i64 last, .raw u, .int .i64 fuse, .bool down, npC], false), (2900001, [mcA (rowsE has)], false)]) ⟨⟨_, rfl, ?_⟩, trivial⟩ ⟨kJ, kJ, trivial⟩ rfl rfl ⟨rfl, rfl, trivial⟩) ?_
   ·show AVle _ (.sli 1000001 9 (ds.length + 1) cap) _
    have hn : ds.length + 1 = (rowsO (sortO ((d :: ds).map obE))).length := by rw [rowsO_len, hsl]
    rw [hn]
    exact .one (hC.le rfl)
   have ho : rowsO (Clu.objects ⟨has, last, fails, fuse, down⟩) = rowsO (sortO ((d :: ds).map obE)) := by
    unfold Clu.objects
    rw [← hobj]
   rw [ho]
   exact AK.ret ⟨⟨_, rfl, rfl⟩, ⟨_, rfl, rfl⟩, ⟨_, rfl, rfl⟩, trivial⟩
end Go.Proofs.YtgidajjjpeboeaaGreatDoor
namespace Go.Proofs.YtgidajjjpeboeaaGreatDoor
set_option maxRecDepth 100000
def b_cluster_Cluster_FailX : ACode :=
 .seq (gQ [gM 4 0, ⟨gO, .eqs 5 true 33 (.s 4) (.k (.raw (Value.pointer none)))⟩]) (.cond (.s 5) (.regs [gM 6 0, gM 7 0, gF 8 0 7, gF 9 2 8, gL 10 9, gM 11 1, ⟨gO, .appr 12 1 8 (.s 10) (.s 11)⟩, gF 13 0 6, gF 14 2 13, gT 1 14 12]) .skip)
def a_cluster_Cluster_FailX : AFn := ⟨2, 15, b_cluster_Cluster_FailX, []⟩
theorem a_cluster_Cluster_FailX_ok : fnAF Tryz.prog [2000036, 4000012, 5000001] Tryz.f36 = some a_cluster_Cluster_FailX := by kernel_rfl
theorem a_cluster_Cluster_FailX_cb : callable Tryz.prog 36 = true := by kernel_rfl
end Go.Proofs.YtgidajjjpeboeaaGreatDoor
