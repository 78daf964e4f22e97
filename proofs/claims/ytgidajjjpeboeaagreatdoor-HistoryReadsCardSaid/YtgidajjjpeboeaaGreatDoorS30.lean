/-
  The texts that the claim wants, one behind the other: part 30.
-/
import Derived.Test.YtgidajjjpeboeaaGreatDoorS29
set_option linter.unusedSimpArgs false
set_option linter.unusedVariables false
namespace Go.Proofs.YtgidajjjpeboeaaGreatDoor
open Go.RowKit
def CQ (f0 : Fr) (s0 : St) : Exit → Fr → St → Prop
 | .normal => fun f s => Weak f s f0 s0
 | _ => fun _ _ => False
theorem AK.cut {P : Program} {E : Env} {Q : Exit → Fr → St → Prop} {k : List AItem} {fr : Fr} {st : St} {a : ACode} (f0 : Fr) (s0 : St) (h1 : AK P E (CQ f0 s0) [.c a] fr st) (h2 : AK P E Q k f0 s0) : AK P E Q (.c a :: k) fr st := by
 intro hd mu c G ac w hc hd2 hC
 refine wp_mono (h1 hd mu c G ac w hc hd2 hC) fun e a2 w2 ⟨G3, f, s, hC3, hQ⟩ => ?_
 cases e with
 | normal =>
  obtain ⟨G4, hC4⟩ := (show Weak f s f0 s0 from hQ) E G3 a2 w2 hC3
  exact ⟨G4, f0, s0, hC4, h2⟩
 | exit id => exact (show False from hQ).elim
 | goto l => exact (show False from hQ).elim
 | ret => exact (show False from hQ).elim
 | panic ch => exact (show False from hQ).elim
 | outgrown => exact (show False from hQ).elim
theorem AK.cutEnd {P : Program} {E : Env} {fr : Fr} {st : St} {f0 : Fr} {s0 : St} (h : Weak fr st f0 s0) : AK P E (CQ f0 s0) [] fr st := h
def rowsJ (l : List Int) : List (List AV) := l.map fun n => [.int .i64 n]
theorem rowsJ_len (l : List Int) : (rowsJ l).length = l.length := List.length_map _
theorem rowsJ_at {l : List Int} {k : Nat} {n : Int} (h : l[k]? = some n) : (rowsJ l)[k]? = some [.int .i64 n] := by simp [rowsJ, h]
theorem rowsJ_snoc (l : List Int) (n : Int) : rowsJ (l ++ [n]) = rowsJ l ++ [[.int .i64 n]] := by unfold rowsJ; rw [List.map_append]; rfl
def idxJ (n : Int) : List Int → Nat → Int
 | [], _ => -1
 | x :: l, k => if x = n then k else idxJ n l (k + 1)
theorem idxJ_mem (n : Int) : ∀ (l : List Int) (k : Nat), (0 ≤ idxJ n l k) ↔ n ∈ l
 | [], k => by simp [idxJ]
 | x :: l, k => by
  unfold idxJ
  by_cases h : x = n
  ·rw [if_pos h]
   simp [h]
  ·rw [if_neg h, idxJ_mem n l (k + 1)]
   simp only [List.mem_cons]
   exact ⟨.inr, fun h2 => h2.resolve_left (fun e => h e.symm)⟩
theorem idxJ_drop {n : Int} {l : List Int} {k : Nat} {x : Int} (h : l[k]? = some x) : idxJ n (l.drop k) k = if x = n then (k : Int) else idxJ n (l.drop (k + 1)) (k + 1) := by
 obtain ⟨hk, e⟩ := List.getElem?_eq_some_iff.1 h
 rw [List.drop_eq_getElem_cons hk, e]
 rfl
theorem index_j (n : Int) (l : List Int) (hl : l.length ≤ 1000000) : AC Tryz.prog 124 [.lst .any 1 (rowsJ l), .int .i64 n] (.int .i64 (idxJ n l 0)) := by
 refine kE Tryz.func124 a_slices_Index_int_ok a_slices_Index_int_cb fun E hE => ?_
 refine kW ?_
 refine AK.loopI (fun k : Nat => (frOf [(0, .lst .any 1 (rowsJ l)), (1, .int .i64 n), (7, .int .i64 (rowsJ l).length), (8, .int .i64 k)], ⟨boxOf [], fun _ => 0⟩)) (fun k => k ≤ l.length ∧ idxJ n l 0 = idxJ n (l.drop k) k) (fun k => l.length - k) 0 ⟨Nat.zero_le _, rfl⟩ (Weak.intro ⟨kI, kI, kI, kI, trivial⟩ trivial rfl rfl) fun k hk => ?_
 obtain ⟨hk, hix⟩ := hk
 refine kW ?_
 refine kC (fun hb => ?_) fun hb => ?_
 ·have hlt : k < l.length := by simpa [rowsJ_len] using hb
  obtain ⟨x, hg⟩ : ∃ x, l[k]? = some x := ⟨_, List.getElem?_eq_getElem hlt⟩
  rw [idxJ_drop hg] at hix
  refine kW ?_
  refine kP [.c [.int .i64 x]] ?_ ?_
  ·((repeat' apply And.intro) <;> first | exact kD | (intro hgd; refine ⟨?_, kG⟩; (repeat' apply And.intro) <;> first | exact kD | skip) | skip)
   all_goals exact rowsJ_at hg
  refine kW ?_
  refine kC (fun hb => ?_) fun hb => ?_
  ·have hx : x = n := ((by simpa using hb : n = x)).symm
   rw [if_pos hx] at hix
   refine kW ?_
   refine AK.ret ⟨_, rfl, ?_⟩
   rw [hix]
   rfl
  ·have hx : x ≠ n := fun h => ((by simpa using hb : ¬ n = x)) h.symm
   rw [if_neg hx] at hix
   refine kW ?_
   exact AK.lp ⟨k + 1, ⟨by omega, hix⟩, Weak.intro ⟨kI, kI, kI, kU, trivial⟩ trivial rfl rfl, by omega⟩
 ·have hlt : k = l.length := by
   have : l.length ≤ k := by simpa [rowsJ_len] using hb
   omega
  subst hlt
  rw [List.drop_length] at hix
  refine AK.exit rfl ?_
  refine kW ?_
  refine AK.ret ⟨_, rfl, ?_⟩
  rw [hix]
  rfl
theorem contains_j (n : Int) (l : List Int) (hl : l.length ≤ 1000000) : AC Tryz.prog 79 [.lst .any 1 (rowsJ l), .int .i64 n] (.bool (decide (n ∈ l))) := by
 have hi := index_j n l hl
 refine kE Tryz.func79 a_slices_Contains_int_ok a_slices_Contains_int_cb fun E hE => ?_
 refine kW ?_
 refine kQ [.v (.int .i64 (idxJ n l 0))] ?_
 refine kW ?_
 refine AK.ret ⟨_, rfl, ?_⟩
 show AV.bool (decide (idxJ n l 0 ≥ 0)) = _
 congr 1
 exact decide_eq_decide.2 (idxJ_mem n l 0)
def leftJ (l : List Int) : List Int := (l.filter fun n => decide (0 < n)).map fun n => n - 1
theorem leftJ_take {l : List Int} {k : Nat} {n : Int} (h : l[k]? = some n) : leftJ (l.take (k + 1)) = leftJ (l.take k) ++ if 0 < n then [n - 1] else [] := by
 unfold leftJ
 rw [List.take_add_one, h]
 simp only [Option.toList]
 rw [List.filter_append, List.map_append]
 congr 1
 by_cases hn : 0 < n
 ·rw [if_pos hn, List.filter_cons_of_pos (by simpa using hn)]
  rfl
 ·rw [if_neg hn, List.filter_cons_of_neg (by simpa using hn)]
  rfl
theorem leftJ_len (l : List Int) : (leftJ l).length ≤ l.length := by
 unfold leftJ
 rw [List.length_map]
 exact List.length_filter_le _ _
end Go.Proofs.YtgidajjjpeboeaaGreatDoor
namespace Go.Proofs.YtgidajjjpeboeaaGreatDoor
open Go.RowKit Go.Sort Go.Lib Go.Shelf
abbrev obId (o : Ob) : Id3 := (o.k, o.s, o.n)
def sortO (l : List Ob) : List Ob := l.mergeSort fun a b => decide (cmpId (obId a) (obId b) ≤ 0)
theorem sortO_perm (l : List Ob) : (sortO l).Perm l := List.mergeSort_perm _ _
theorem sortO_sorted {l : List Ob} (hnd : (l.map obId).Nodup) : (sortO l).Pairwise fun x y => cmpId (obId x) (obId y) < 0 := by
 have hs := List.pairwise_mergeSort (le := fun a b : Ob => decide (cmpId (obId a) (obId b) ≤ 0)) (fun x y z h k => by
  have h := of_decide_eq_true h
  have k := of_decide_eq_true k
  refine decide_eq_true ?_
  by_cases e1 : cmpId (obId x) (obId y) = 0
  ·rw [(cmpI_ok.eq _ _).1 e1]; exact k
  ·by_cases e2 : cmpId (obId y) (obId z) = 0
   ·rw [← (cmpI_ok.eq _ _).1 e2]; exact h
   ·have := cmpI_ok.trans (obId x) (obId y) (obId z) (by omega) (by omega)
    omega) (fun x y => by
  rw [Bool.or_eq_true, decide_eq_true_eq, decide_eq_true_eq]
  have := cmpI_ok.anti (obId x) (obId y)
  omega) l
 have hp : ((sortO l).map obId).Nodup := ((sortO_perm l).map obId).nodup_iff.2 hnd
 have hp : (sortO l).Pairwise fun x y => obId x ≠ obId y := List.pairwise_map.1 hp
 refine (hs.and hp).imp fun {a b} h => ?_
 have h1 := of_decide_eq_true h.1
 have h2 : cmpId (obId a) (obId b) ≠ 0 := fun e => h.2 ((cmpI_ok.eq _ _).1 e)
 omega
theorem sortO_one {l l' : List Ob} (hnd : (l.map obId).Nodup) (hp : l.Perm l') : sortO l = sortO l' := by
 have hnd' : (l'.map obId).Nodup := (hp.map obId).nodup_iff.1 hnd
 exact sorted_one cmpI_ok obId ((sortO_perm l).trans (hp.trans (sortO_perm l').symm)) (sortO_sorted hnd) (sortO_sorted hnd')
theorem grow2 (w : World) (A B : Obj) (q : Nat) (os : Array Obj) : grow (((w.alloc A).alloc B).drewN q) os = grow (w.drewN q) (#[A, B] ++ os) := by
 have h : ((w.heap.push A).push B) ++ os = w.heap ++ (#[A, B] ++ os) := by
  apply Array.ext'
  simp
 unfold grow World.drewN World.alloc
 simp only
 rw [← h]
set_option maxRecDepth 100000 in
theorem objects1_any (k s n k' s' n' : ByteArray) (a b c d e f a' b' c' d' e' f' : Value) (w : World) (hg : GW w) :
  Calls Tryz.prog 40 #[.agg #[.string k, .string s, .string n, a, b, c, d, e, f], .agg #[.string k', .string s', .string n', a', b', c', d', e', f']] w fun e w' => e = .returned (.int .i64 (cmpO k s n k' s' n')) ∧ ∃ q os, w' = grow (w.drewN q) os := by
 obtain ⟨R, hR⟩ : ∃ R, cmpO k s n k' s' n' = R := ⟨_, rfl⟩
 have hc := Lib.hid fun w hg => compare_any k s n k' s' n' w hg
 rw [hR] at hc ⊢
 have hg1 : GW ((w.alloc (.cells #[.string k, .string s, .string n, a, b, c, d, e, f] 46)).alloc (.cells #[.string k', .string s', .string n', a', b', c', d', e', f'] 46)) := hg.below (((Below.refl _ _).alloc (Nat.le_refl _) _).alloc (by simp) _)
 have HG := Lib.hid hg1
 clear hR hg hg1
 go_enter Tryz.func40, Tryz.ntmps40
 go_wp2_with (go_at_call 41; refine (hc.out _ HG.out).mono ?_; rintro e1 w1 ⟨rfl, q, os, rfl⟩)
 go_ret
 exact ⟨rfl, q, _, grow2 w _ _ q os⟩
theorem obC_len (o : Ob) : (obC o).length = 9 := rfl
theorem obC_clean (o : Ob) : ∀ c ∈ obC o, c.clean = true := by
 intro c hc
 simp at hc
 rcases hc with rfl | rfl | rfl | rfl | rfl | rfl | rfl | rfl | rfl <;> rfl
theorem cells9 {σ : Sg} {cs : List Value} {o : Ob} (h : RelL σ cs (obC o)) : ∃ a b c d e f, cs.toArray = #[.string o.k, .string o.s, .string o.n, a, b, c, d, e, f] := by
 have hl := h.1
 rcases cs with _ | ⟨x1, _ | ⟨x2, _ | ⟨x3, _ | ⟨x4, _ | ⟨x5, _ | ⟨x6, _ | ⟨x7, _ | ⟨x8, _ | ⟨x9, _ | ⟨_, _⟩⟩⟩⟩⟩⟩⟩⟩⟩⟩ <;> simp at hl
 have h1 : Rel1 σ x1 (.str o.k) := h.2 0 _ _ rfl rfl
 have h2 : Rel1 σ x2 (.str o.s) := h.2 1 _ _ rfl rfl
 have h3 : Rel1 σ x3 (.str o.n) := h.2 2 _ _ rfl rfl
 cases h1
 cases h2
 cases h3
 exact ⟨x4, x5, x6, x7, x8, x9, rfl⟩
theorem sortO_ms (l : List Ob) (hnd : (l.map obId).Nodup) (hlen : l.length ≤ 1000000) (cap m : Nat) (hcap : l.length ≤ cap) (hz : ((rowsO l).flatten ++ List.replicate m AV.top).length = cap * 9) :
  MS Tryz.prog 39 [(2000000, (rowsO l).flatten ++ List.replicate m AV.top)] [.sli 2000000 9 l.length cap, .fn 40 []] [(2000000, (rowsO (sortO l)).flatten ++ List.replicate m AV.top)] (.tup []) :=
 sort_ms Tryz.sortO (by kernel_rfl) Tryz.isAgg46 Tryz.sizeOf46 (fun o => obC o) obC_len obC_clean cmpI_ok obId hnd (by omega) (sortO_perm l) (sortO_sorted hnd) _ (enters_of Tryz.func40 (by kernel_rfl) rfl) (fun σ cs ds x y _ _ h1 h2 W hW => by
  obtain ⟨a, b, c, d, e, f, e1⟩ := cells9 h1
  obtain ⟨a', b', c', d', e', f', e2⟩ := cells9 h2
  rw [e1, e2]
  exact objects1_any _ _ _ _ _ _ _ _ _ _ _ _ _ _ _ _ _ _ W hW) cap m hcap hz
theorem sortNil_a (f : AV) (hf : f.arg = some f) : AC Tryz.prog 39 [.lst .any 9 [], f] (.tup []) := by
 refine ⟨by kernel_rfl, fun σ w vs hh hr hg => ?_⟩
 obtain ⟨v1, v2, rfl⟩ : ∃ a b, vs = [a, b] := by
  have := hr.1
  rcases vs with _ | ⟨a, _ | ⟨b, _ | ⟨_, _⟩⟩⟩ <;> simp at this
  exact ⟨a, b, rfl⟩
 have h1 : Rel1 σ v1 (.lst .any 9 []) := hr.2 0 v1 _ rfl rfl
 cases h1 with
 | lst t esz l A n cap b o f hn hlen hA hsz hσ hr ht =>
  subst hn
  refine (AnyF.slices_SortFunc_none Tryz.sortO A cap v2 w).mono ?_
  rintro e w' ⟨rfl, rfl⟩
  exact ⟨σ, .tuple #[], rfl, .refl _ _, hh, .refl _ _, [], rfl, rfl, fun j u x hu => by simp at hu⟩
abbrev enV (v : V) (n : Int) : List AV := [.int .i64 v.kind, .bool v.b, .int .i64 v.n, .str v.s, .lst .any 6 (rowsV v.l), .lst .any 7 (rowsM v.m), .int .i64 n]
abbrev rowE (e : CEnt) : MRow := ([.str e.id.k, .str e.id.s, .str e.id.n], enV e.body e.ver)
def rowsE (l : List CEnt) : List MRow := l.map fun e => rowE e
def obE (e : CEnt) : Ob := ⟨e.id.k, e.id.s, e.id.n, e.body⟩
abbrev cluX (c m : Nat) (cl : Clu) : List (Nat × List AV) := [(c, [.np m 0, .int .i64 cl.last, .lst .any 1 (rowsJ cl.fails), .int .i64 cl.fuse, .bool cl.down, npC]), (m, [mcA (rowsE cl.has)])]
def Clu.objects (cl : Clu) : List Ob := sortO (cl.has.map obE)
structure CluOk (cl : Clu) : Prop where
 nd : (cl.has.map fun e => e.id).Nodup
 size : ∀ e ∈ cl.has, e.body.size ≤ 1000000
 len : cl.has.length ≤ 1000000
theorem obE_nd {l : List CEnt} (h : (l.map fun e => e.id).Nodup) : ((l.map obE).map obId).Nodup := by
 rw [List.map_map]
 have e : l.map (obId ∘ obE) = (l.map fun e => e.id).map fun i => (i.k, i.s, i.n) := by rw [List.map_map]; rfl
 rw [e]
 rw [List.nodup_iff_pairwise_ne] at h ⊢
 exact List.pairwise_map.2 (h.imp fun {a b} hne e => hne (by cases a; cases b; simp at e; simp [e]))
theorem rowsE_split {l : List CEnt} {la lb : List MRow} {row : MRow} (h : rowsE l = la ++ row :: lb) : ∃ a e b, l = a ++ e :: b ∧ la = rowsE a ∧ row = rowE e ∧ lb = rowsE b := by
 unfold rowsE at h
 obtain ⟨a, b, rfl, h1, h2⟩ := List.map_eq_append_iff.1 h
 obtain ⟨e, b', rfl, h3, h4⟩ := List.map_eq_cons_iff.1 h2
 exact ⟨a, e, b', rfl, h1.symm, h3.symm, h4.symm⟩
theorem rowsO_ok (l : List Ob) : RowsOk 9 (rowsO l) := ⟨by omega, fun c hc => by
 obtain ⟨o, _, rfl⟩ := List.mem_map.1 hc
 exact ⟨rfl, rfl⟩⟩
theorem rowsO_flen (l : List Ob) : (rowsO l).flatten.length = l.length * 9 := by rw [(rowsO_ok l).flat.1, rowsO_len]
def obJ (r : Nat) (i : List CEnt × List CEnt × Nat × Nat) : Fr × St := match i.2.1 with
 | [] => (frOf [(3, .lst .nil 9 []), (12, itA r)], ⟨boxOf [], fun _ => 0⟩)
 | e :: l => (frOf [(3, .sli 1000001 9 (l.length + 1) i.2.2.1), (12, itA r)], ⟨boxOf [(1000001, (rowsO ((e :: l).map obE)).flatten ++ List.replicate i.2.2.2 AV.top, false)], fun _ => 0⟩)
def obI (has : List CEnt) (i : List CEnt × List CEnt × Nat × Nat) : Prop := (i.1 ++ i.2.1).Perm has ∧ i.2.1.length ≤ i.2.2.1 + (match i.2.1 with | [] => 1 | _ => 0) ∧ (i.2.1 ≠ [] → ((rowsO (i.2.1.map obE)).flatten ++ List.replicate i.2.2.2 AV.top).length = i.2.2.1 * 9)
def rhoO (i : Nat) : Nat := if i = 2000000 then 1000001 else if i = 1000001 then 2000000 else i
theorem rhoO_inj (i j : Nat) (h : rhoO i = rhoO j) : i = j := by
 unfold rhoO at h
 repeat' split at h
 all_goals omega
theorem rhoO_mp (i : Nat) : isMp (rhoO i) = isMp i := by
 unfold rhoO
 repeat' split
 all_goals first | (subst_vars; rfl) | rfl
end Go.Proofs.YtgidajjjpeboeaaGreatDoor
namespace Go.Proofs.YtgidajjjpeboeaaGreatDoor
open Go.RowKit
theorem obI_step {has la lb done : List CEnt} {e : CEnt} {cap m cap' m' : Nat} (h : obI has (la ++ e :: lb, done, cap, m)) (hc : (rowsO (done.map obE) ++ [obC (obE e)]).length ≤ cap') (hl : ((rowsO (done.map obE) ++ [obC (obE e)]).flatten ++ List.replicate m' AV.top).length = cap' * 9) : obI has (la ++ lb, done ++ [e], cap', m') := by
 obtain ⟨h1, h2, h3⟩ := h
 refine ⟨?_, ?_, fun _ => ?_⟩
 ·refine List.Perm.trans ?_ h1
  simp only
  rw [List.append_assoc, List.append_assoc]
  refine List.Perm.append_left _ ?_
  rw [List.cons_append, ← List.append_assoc]
  exact List.perm_append_singleton _ _
 ·simp only [List.length_append, List.length_cons, List.length_nil, rowsO_len, List.length_map] at hc ⊢
  omega
 ·simp only [List.map_append, List.map_cons, List.map_nil]
  rw [rowsO_snoc]
  exact hl
theorem rowsE_append (a b : List CEnt) : rowsE a ++ rowsE b = rowsE (a ++ b) := by unfold rowsE; rw [List.map_append]
theorem noFrs_rowsO (l : List Ob) (m : Nat) : ((rowsO l).flatten ++ List.replicate m AV.top).all AV.noFrs = true := by
 rw [List.all_eq_true]
 intro c hc
 rcases List.mem_append.1 hc with hc | hc
 ·obtain ⟨r, hr, hcr⟩ := List.mem_flatten.1 hc
  obtain ⟨o, _, rfl⟩ := List.mem_map.1 hr
  have := obC_clean o c hcr
  cases c <;> first | rfl | cases this
 ·rw [(List.mem_replicate.1 hc).2]; rfl
theorem clean_inS {a : AV} (h : a.clean = true) (ids : List Nat) : a.inS ids = true := by
 cases a with
 | lst t e l => cases t <;> first | rfl | cases h
 | _ => first | rfl | cases h
theorem map_clean {g : AV → AV} (hg : ∀ a : AV, a.clean = true → g a = a) (l : List Ob) (m : Nat) : ((rowsO l).flatten ++ List.replicate m AV.top).map g = (rowsO l).flatten ++ List.replicate m AV.top := by
 rw [show ((rowsO l).flatten ++ List.replicate m AV.top).map g = ((rowsO l).flatten ++ List.replicate m AV.top).map id from List.map_congr_left fun c hc => ?_, List.map_id]
 rcases List.mem_append.1 hc with hc | hc
 ·obtain ⟨r, hr, hcr⟩ := List.mem_flatten.1 hc
  obtain ⟨o, _, rfl⟩ := List.mem_map.1 hr
  exact hg c (obC_clean o c hcr)
 ·rw [(List.mem_replicate.1 hc).2]; exact hg _ rfl
theorem clean_told {a : AV} (h : a.clean = true) : a.told = a := by
 cases a with
 | lst t e l => cases t <;> first | rfl | cases h
 | _ => first | rfl | cases h
theorem clean_clr {a : AV} (N : List Nat) (h : a.clean = true) : clrC N a = a := by
 cases a with
 | lst t e l => rfl
 | _ => first | rfl | cases h
theorem clean_ren {a : AV} (ρ : Nat → Nat) (h : a.clean = true) : a.ren ρ = a := by
 cases a with
 | lst t e l => rfl
 | _ => first | rfl | cases h
theorem inS_rowsO (l : List Ob) (m : Nat) (ids : List Nat) : ((rowsO l).flatten ++ List.replicate m AV.top).all (AV.inS ids) = true := by
 rw [List.all_eq_true]
 intro c hc
 rcases List.mem_append.1 hc with hc | hc
 ·obtain ⟨r, hr, hcr⟩ := List.mem_flatten.1 hc
  obtain ⟨o, _, rfl⟩ := List.mem_map.1 hr
  have := obC_clean o c hcr
  exact clean_inS this ids
 ·rw [(List.mem_replicate.1 hc).2]; rfl
theorem ren_rowsO (ρ : Nat → Nat) (l : List Ob) (m : Nat) : ((rowsO l).flatten ++ List.replicate m AV.top).map (AV.ren ρ) = (rowsO l).flatten ++ List.replicate m AV.top := map_clean (fun a h => clean_ren ρ h) l m
theorem okS_row {cs : List AV} (h : cs.all (AV.inS [1000001]) = true) (b : Nat → Option (List AV × Bool)) : (okS [1000001] [(1000001, cs)] (.tup []) && freeIds b (newIds [1000001] [(1000001, cs)])) = true := by
 unfold okS
 show ((true && (cs.all (AV.inS [1000001]) && true)) && true && true) = true
 rw [h]
 rfl
theorem sortO_mr (l : List Ob) (hnd : (l.map obId).Nodup) (hlen : l.length ≤ 1000000) (cap m : Nat) (hcap : l.length ≤ cap) (hz : ((rowsO l).flatten ++ List.replicate m AV.top).length = cap * 9) :
  MS Tryz.prog 39 [(1000001, (rowsO l).flatten ++ List.replicate m AV.top)] [.sli 1000001 9 l.length cap, .fn 40 []] [(1000001, (rowsO (sortO l)).flatten ++ List.replicate m AV.top)] (.tup []) := by
 have h := (sortO_ms l hnd hlen cap m hcap hz).ren rhoO rhoO_inj rhoO_mp
 unfold renS at h
 simp only [List.map_cons, List.map_nil, ren_rowsO] at h
 exact h
set_option maxHeartbeats 20000000 in
theorem objects_m (cl : Clu) (hok : CluOk cl) : MS Tryz.prog 11 (cluX 2000000 2900001 cl) [.np 2000000 0] (cluX 2000000 2900001 cl) (.lst .any 9 (rowsO cl.objects)) := by
 obtain ⟨has, last, fails, fuse, down⟩ := cl
 obtain ⟨hnd, hsz, hlen⟩ := hok
 dsimp only at hnd hsz hlen
 refine MS.enter Tryz.func11 a_cluster_Cluster_Objects_ok a_cluster_Cluster_Objects_cb (by rfl) (by rfl) fun E hE => ?_
 show AK _ _ _ [.c b_cluster_Cluster_Objects] _ _
 rw [b_cluster_Cluster_Objects]
 refine kS ?_
 refine kA fw0 ?_
 refine kS ?_
 refine kS ?_
 refine kP [] ?_ ?_
 ·(repeat' apply And.intro) <;> first | exact fun g o => someClu false g o | exact kD
 refine kCf ?_
 (repeat (first | refine kA fw0 ?_ | (apply kS; refine kA fw0 ?_) | apply kN | apply kB | apply kL))
 refine kS ?_
 refine AK.mrange 2900001 (rowsE has) (cluX 2000000 2900001 ⟨has, last, fails, fuse, down⟩) [] obJ (obI has) (fun i => rowsE i.1) (has, [], 0, 0) ?_ ?_ rfl ?_ ?_ ?_ ?_ ?_ ?_ ?_ ?_
 ·(repeat' apply And.intro) <;> exact kD
 ·exact ⟨by simp, by simp, fun h => absurd rfl h⟩
 ·intro x hx
  rcases List.mem_cons.1 hx with rfl | hx
  ·rfl
  ·rw [List.mem_singleton.1 hx]; rfl
 ·intro x hx
  rcases List.mem_cons.1 hx with rfl | hx
  ·show 1000000 ≤ 2000000; omega
  ·rw [List.mem_singleton.1 hx]; show 1000000 ≤ 2900001; omega
 ·intro x hx c hc
  rcases List.mem_cons.1 hx with rfl | hx
  ·simp at hc
   rcases hc with rfl | rfl | rfl | rfl | rfl | rfl <;> rfl
  ·rw [List.mem_singleton.1 hx] at hc
   rw [List.mem_singleton.1 hc]
   rfl
 ·exact List.mem_cons_of_mem _ (List.mem_singleton.2 rfl)
 ·intro r
  exact Weak.introN (L := [(3, .lst .nil 9 []), (12, itA r)]) (BL := []) ⟨kI, kI, trivial⟩ trivial rfl rfl trivial
 ·intro r ⟨left, done, cap, m⟩
  cases done <;> rfl
 ·intro E2 r ⟨left, done, cap, m⟩ la row lb hE2 hI hL hent
  obtain ⟨la', e, lb', rfl, rfl, rfl, rfl⟩ := rowsE_split hL
  have hez : e.body.size ≤ 1000000 := hsz e (hI.1.mem_iff.1 (by simp))
  have hdl : done.length ≤ 1000000 := by have := hI.1.length_eq; simp at this; omega
  have hcl : AC Tryz.prog 38 [(vA (e.body))] ((vA (e.body))) := clone_ok e.body (by omega)
  have hnew : ∀ cap m, (rowsO (done.map obE) ++ [obC (obE e)]).length ≤ cap → ((rowsO (done.map obE) ++ [obC (obE e)]).flatten ++ List.replicate m AV.top).length = cap * 9 → obI has (la' ++ lb', done ++ [e], cap, m) := fun cap' m' h1 h2 => obI_step hI h1 h2
  cases done with
  | nil =>
   refine ⟨[], _, _, _, _, rfl, trivial, ?_⟩
   refine kS ?_
   refine kCt ?_
   refine kN ?_
   refine kB ?_
   refine kS ?_
   refine AK.ent (rs := []) hent rfl rfl ?_ ?_
   ·(repeat' apply And.intro) <;> exact kD
   refine kP [.v ((vA (e.body))), .m [] []] ?_ ?_
   ·(repeat' apply And.intro) <;> first | exact hcl | exact kD
   refine kL ?_
   refine AK.nil ?_
   refine MQ_open 3 25 1000001 rfl (by omega) rfl fun cap' m' h1 h2 => ⟨(la' ++ lb', [e], cap', m'), hnew cap' m' h1 h2, by rw [rowsE_append], ?_⟩
   exact Weak.introN (L := [(3, .sli 1000001 9 1 cap'), (12, itA r)]) (BL := [(1000001, (rowsO ([e].map obE)).flatten ++ List.replicate m' AV.top, false)]) ⟨kI, kI, trivial⟩ ⟨kJ, trivial⟩ rfl rfl ⟨noFrs_rowsO _ _, trivial⟩
  | cons d ds =>
   refine ⟨[], _, _, _, _, rfl, trivial, ?_⟩
   refine kS ?_
   refine kCt ?_
   refine kN ?_
   refine kB ?_
   refine kS ?_
   refine AK.ent (rs := []) hent rfl rfl ?_ ?_
   ·(repeat' apply And.intro) <;> exact kD
   have hz := hI.2.2 (by simp)
   dsimp only at hz
   have hol : (rowsO ((d :: ds).map obE)).length = ds.length + 1 := by rw [rowsO_len, List.length_map]; rfl
   refine kP [.v ((vA (e.body))), .m (rowsO ((d :: ds).map obE)) []] ?_ ?_
   ·(repeat' apply And.intro) <;> first | exact hcl | exact kD | exact ⟨_, rfl⟩ | exact hz | exact (rowsO_ok _).2 | exact (rowsO_ok _).1 | exact hol.symm | (rw [hol]; simp only [List.length_cons, List.length_nil] at *; omega)
   refine kL ?_
   refine AK.nil ?_
   refine MQ_open 3 25 1000001 rfl (by omega) rfl fun cap' m' h1 h2 => ⟨(la' ++ lb', d :: ds ++ [e], cap', m'), hnew cap' m' h1 h2, by rw [rowsE_append], ?_⟩
   refine Weak.introN (L := [(3, .sli 1000001 9 ((ds ++ [e]).length + 1) cap'), (12, itA r)]) (BL := [(1000001, (rowsO ((d :: (ds ++ [e])).map obE)).flatten ++ List.replicate m' AV.top, false)]) ⟨⟨_, rfl, .of_eq ?_⟩, kI, trivial⟩ ⟨⟨_, rfl, leL_of_eq ?_⟩, trivial⟩ rfl rfl ⟨noFrs_rowsO _ _, trivial⟩
   ·show AV.sli 1000001 9 (rowsO ((d :: ds).map obE) ++ [obC (obE e)]).length cap' = _
    rw [List.length_append, hol, List.length_append]
    rfl
   ·show (rowsO ((d :: ds).map obE) ++ [obC (obE e)]).flatten ++ List.replicate m' AV.top = _
    rw [← rowsO_snoc, show d :: (ds ++ [e]) = (d :: ds) ++ [e] from rfl, List.map_append]
    rfl
 ·intro E2 r ⟨left, done, cap, m⟩ hE2 hI hL
  have hl : left = [] := by
   unfold rowsE at hL
   exact List.map_eq_nil_iff.1 hL
  subst hl
  have hperm : done.Perm has := by have := hI.1; simpa using this
  have hobj : sortO (done.map obE) = sortO (has.map obE) := sortO_one (obE_nd ((hperm.map _).nodup_iff.2 hnd)) (hperm.map obE)
  cases done with
  | nil =>
   refine ⟨[], _, _, _, _, rfl, trivial, ?_⟩
   refine kS ?_
   refine kCf ?_
   refine AK.exitMQ ?_
   refine kW ?_
   have hsn := sortNil_a (.fn 40 []) rfl
   refine kQ [.v (.tup [])] ?_
   refine kW ?_
   have ho : rowsO (Clu.objects ⟨has, last, fails, fuse, down⟩) = [] := by
    unfold Clu.objects
    rw [← hobj]
    unfold sortO
    rw [List.map_nil, List.mergeSort_nil]
    rfl
   rw [ho]
   refine AK.ret ⟨⟨_, rfl, rfl⟩, ⟨_, rfl, rfl⟩, ⟨_, rfl, rfl⟩, trivial⟩
  | cons d ds =>
   refine ⟨[], _, _, _, _, rfl, trivial, ?_⟩
   refine kS ?_
   refine kCf ?_
   refine AK.exitMQ ?_
   have hz := hI.2.2 (by simp)
   have hcp := hI.2.1
   dsimp only at hz hcp
   have hol : ((d :: ds).map obE).length = ds.length + 1 := by simp
   have hsl : (sortO ((d :: ds).map obE)).length = ds.length + 1 := by rw [(sortO_perm _).length_eq]; exact hol
   have hdl : ds.length + 1 ≤ 1000000 := by have := hperm.length_eq; simp at this; omega
   have hS := sortO_mr ((d :: ds).map obE) (obE_nd ((hperm.map _).nodup_iff.2 hnd)) (by rw [hol]; exact hdl) cap m (by rw [hol]; simpa using hcp) hz
   have hC := RowCs.mk_ (rowsO_ok (sortO ((d :: ds).map obE))) (cap := cap) (m := m) (by rw [rowsO_len, hsl]; simpa using hcp) (by
    rw [List.length_append, rowsO_flen, hsl]
    rw [List.length_append, rowsO_flen, hol] at hz
    exact hz)
   have hok := okS_row (inS_rowsO (sortO ((d :: ds).map obE)) m [1000001])
   rw [hol] at hS
   refine AK.weak (Weak.introN (L := [(3, .sli 1000001 9 (ds.length + 1) cap)]) (BL := [(1000001, (rowsO ((d :: ds).map obE)).flatten ++ List.replicate m AV.top, false), (2000000, [.np 2900001 0, .int .i64 last, .lst .any 1 (rowsJ fails), .int .i64 fuse, .bool down, npC], false), (2900001, [mcA (rowsE has)], false)]) ⟨kI, trivial⟩ ⟨⟨_, rfl, leL_of_eq (map_clean (fun a h => clean_clr _ h) _ m)⟩, kJ, kJ, trivial⟩ rfl rfl ⟨noFrs_rowsO _ _, rfl, rfl, trivial⟩) ?_
   refine kW ?_
   refine kP [.s [1000001] [(1000001, (rowsO (sortO ((d :: ds).map obE))).flatten ++ List.replicate m AV.top)] (.tup [])] ?_ ?_
   ·(repeat' apply And.intro) <;> first | exact hS | exact hok _ | (rw [map_clean (fun a h => clean_told h)]; exact hS) | exact kD
   refine kW ?_
   refine AK.fz 1000001 rfl ?_
   refine AK.weak (Weak.introN (L := [(2, .lst .any 9 (rowsO (sortO ((d :: ds).map obE))))]) (BL := [(2000000, [.np 2900001 0, .int .i64 last, .lst .any 1 (rowsJ fails), .int .i64 fuse, .bool down, npC], false), (2900001, [mcA (rowsE has)], false)]) ⟨⟨_, rfl, ?_⟩, trivial⟩ ⟨kJ, kJ, trivial⟩ rfl rfl ⟨rfl, rfl, trivial⟩) ?_
   ·show AVle _ (.sli 1000001 9 (ds.length + 1) cap) _
    have hn : ds.length + 1 = (rowsO (sortO ((d :: ds).map obE))).length := by rw [rowsO_len, hsl]
    rw [hn]
    exact .one (hC.le rfl)
   have ho : rowsO (Clu.objects ⟨has, last, fails, fuse, down⟩) = rowsO (sortO ((d :: ds).map obE)) := by
    unfold Clu.objects
    rw [← hobj]
   rw [ho]
   exact AK.ret ⟨⟨_, rfl, rfl⟩, ⟨_, rfl, rfl⟩, ⟨_, rfl, rfl⟩, trivial⟩
section
variable {β : Type} (rev : β → Int)
def sortR (l : List β) : List β := l.mergeSort fun a b => decide (rev a ≤ rev b)
theorem sortR_perm (l : List β) : (sortR rev l).Perm l := List.mergeSort_perm _ _
theorem sortR_sorted {l : List β} (hnd : (l.map rev).Nodup) : (sortR rev l).Pairwise fun x y => rev x < rev y := by
 have hs := List.pairwise_mergeSort (le := fun a b : β => decide (rev a ≤ rev b)) (fun x y z h k => by
  have h := of_decide_eq_true h
  have k := of_decide_eq_true k
  exact decide_eq_true (by omega)) (fun x y => by
  rw [Bool.or_eq_true, decide_eq_true_eq, decide_eq_true_eq]
  omega) l
 have hp : ((sortR rev l).map rev).Nodup := ((sortR_perm rev l).map rev).nodup_iff.2 hnd
 have hp : (sortR rev l).Pairwise fun x y => rev x ≠ rev y := List.pairwise_map.1 hp
 refine (hs.and hp).imp fun {a b} h => ?_
 have h1 := of_decide_eq_true h.1
 have h2 := h.2
 omega
def placeR (out : List β) (r : β) : Nat := (out.takeWhile fun x => decide (rev x < rev r)).length
def insR (out : List β) (r : β) : List β := out.take (placeR rev out r) ++ r :: out.drop (placeR rev out r)
theorem insR_perm (out : List β) (r : β) : (insR rev out r).Perm (r :: out) := by
 unfold insR
 refine List.perm_middle.trans ?_
 rw [List.take_append_drop]
theorem insR_len (out : List β) (r : β) : (insR rev out r).length = out.length + 1 := (insR_perm rev out r).length_eq
theorem placeR_le (out : List β) (r : β) : placeR rev out r ≤ out.length := (List.takeWhile_prefix _).length_le
theorem take_place (out : List β) (r : β) : out.take (placeR rev out r) = out.takeWhile fun x => decide (rev x < rev r) := by
 unfold placeR
 exact (List.prefix_iff_eq_take.1 (List.takeWhile_prefix _)).symm
theorem drop_place (out : List β) (r : β) : out.drop (placeR rev out r) = out.dropWhile fun x => decide (rev x < rev r) := by
 have h := List.takeWhile_append_dropWhile (p := fun x => decide (rev x < rev r)) (l := out)
 have h2 := List.take_append_drop (placeR rev out r) out
 rw [take_place] at h2
 exact List.append_cancel_left (h2.trans h.symm)
theorem insR_sorted {out : List β} {r : β} (h : out.Pairwise fun x y => rev x < rev y) (hr : ∀ x ∈ out, rev x ≠ rev r) : (insR rev out r).Pairwise fun x y => rev x < rev y := by
 unfold insR
 have ht : ∀ x ∈ out.take (placeR rev out r), rev x < rev r := fun x hx => by
  rw [take_place] at hx
  simpa using List.all_eq_true.1 (List.all_takeWhile (l := out) (p := fun x => decide (rev x < rev r))) x hx
 have hd : ∀ x ∈ out.drop (placeR rev out r), rev r < rev x := fun x hx => by
  rw [drop_place] at hx
  have hsub : (out.dropWhile fun x => decide (rev x < rev r)).Pairwise fun x y => rev x < rev y := h.sublist (List.dropWhile_sublist _)
  cases hdw : out.dropWhile fun x => decide (rev x < rev r) with
  | nil => rw [hdw] at hx; cases hx
  | cons y t =>
   have hy : ¬ rev y < rev r := by
    have := List.head_dropWhile_not (p := fun x => decide (rev x < rev r)) (l := out) (by rw [hdw]; simp)
    simp only [hdw, List.head_cons] at this
    simpa using this
   have hym : y ∈ out := (List.dropWhile_sublist _).subset (by rw [hdw]; simp)
   have hne := hr y hym
   rw [hdw] at hx hsub
   rcases List.mem_cons.1 hx with rfl | hx
   ·omega
   ·have := (List.pairwise_cons.1 hsub).1 x hx
    omega
 rw [List.pairwise_append]
 refine ⟨h.sublist (List.take_sublist _ _), List.pairwise_cons.2 ⟨hd, h.sublist (List.drop_sublist _ _)⟩, fun a ha b hb => ?_⟩
 have := ht a ha
 rcases List.mem_cons.1 hb with rfl | hb
 ·exact this
 ·have := hd b hb
  omega
theorem foldR {l : List β} : ∀ {out : List β}, out.Pairwise (fun x y => rev x < rev y) → ((out ++ l).map rev).Nodup → (l.foldl (insR rev) out).Pairwise (fun x y => rev x < rev y) ∧ (l.foldl (insR rev) out).Perm (out ++ l) := by
 induction l with
 | nil => intro out h _; simpa using h
 | cons r l ih =>
  intro out h hnd
  rw [List.foldl_cons]
  have hp : (insR rev out r ++ l).Perm (out ++ r :: l) := ((insR_perm rev out r).append_right l).trans (by simpa using (List.perm_middle (l₁ := out) (a := r) (l₂ := l)).symm)
  have hr : ∀ x ∈ out, rev x ≠ rev r := fun x hx e => by
   rw [List.map_append, List.nodup_append] at hnd
   exact hnd.2.2 (rev x) (List.mem_map.2 ⟨x, hx, rfl⟩) (rev r) (by simp) e
  obtain ⟨h1, h2⟩ := ih (insR_sorted rev h hr) ((hp.map rev).nodup_iff.2 hnd)
  exact ⟨h1, h2.trans hp⟩
theorem fold_sortR {l : List β} (hnd : (l.map rev).Nodup) : l.foldl (insR rev) [] = sortR rev l := by
 obtain ⟨h1, h2⟩ := foldR rev (l := l) (out := []) .nil (by simpa using hnd)
 have h2 : (l.foldl (insR rev) []).Perm l := by simpa using h2
 exact (h2.trans (sortR_perm rev l).symm).eq_of_pairwise (fun a b _ _ h k => by omega) h1 (sortR_sorted rev hnd)
end
end Go.Proofs.YtgidajjjpeboeaaGreatDoor
