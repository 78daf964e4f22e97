/-
  The texts that the claim wants, one behind the other: part 32.
-/
import Derived.Test.YtdncaodccgfniaaDoorS31
set_option linter.unusedSimpArgs false
set_option linter.unusedVariables false
namespace Go.Proofs.YtdncaodccgfniaaDoor
open Go.RowKit Go.Sort Go.Lib Go.Shelf
abbrev obId (o : Ob) : Id3 := (o.k, o.s, o.n)
def sortO (l : List Ob) : List Ob := l.mergeSort fun a b => decide (cmpI (obId a) (obId b) ≤ 0)
theorem sortO_perm (l : List Ob) : (sortO l).Perm l := List.mergeSort_perm _ _
theorem sortO_sorted {l : List Ob} (hnd : (l.map obId).Nodup) : (sortO l).Pairwise fun x y => cmpI (obId x) (obId y) < 0 := by
 have hs := List.pairwise_mergeSort (le := fun a b : Ob => decide (cmpI (obId a) (obId b) ≤ 0)) (fun x y z h k => by
  have h := of_decide_eq_true h
  have k := of_decide_eq_true k
  refine decide_eq_true ?_
  by_cases e1 : cmpI (obId x) (obId y) = 0
  ·rw [(cmpI_ok.eq _ _).1 e1]; exact k
  ·by_cases e2 : cmpI (obId y) (obId z) = 0
   ·rw [← (cmpI_ok.eq _ _).1 e2]; exact h
   ·have := cmpI_ok.trans (obId x) (obId y) (obId z) (by omega) (by omega)
    omega) (fun x y => by
  rw [Bool.or_eq_true, decide_eq_true_eq, decide_eq_true_eq]
  have := cmpI_ok.anti (obId x) (obId y)
  omega) l
 have hp : ((sortO l).map obId).Nodup := ((sortO_perm l).map obId).nodup_iff.2 hnd
 have hp : (sortO l).Pairwise fun x y => obId x ≠ obId y := List.pairwise_map.1 hp
 refine (hs.and hp).imp fun {a b} h => ?_
 have h1 := of_decide_eq_true h.1
 have h2 : cmpI (obId a) (obId b) ≠ 0 := fun e => h.2 ((cmpI_ok.eq _ _).1 e)
 omega
theorem sortO_one {l l' : List Ob} (hnd : (l.map obId).Nodup) (hp : l.Perm l') : sortO l = sortO l' := by
 have hnd' : (l'.map obId).Nodup := (hp.map obId).nodup_iff.1 hnd
 exact sorted_one cmpI_ok obId ((sortO_perm l).trans (hp.trans (sortO_perm l').symm)) (sortO_sorted hnd) (sortO_sorted hnd')
theorem grow2 (w : World) (A B : Obj) (q : Nat) (os : Array Obj) : grow (((w.alloc A).alloc B).drewN q) os = grow (w.drewN q) (#[A, B] ++ os) := by
 have h : ((w.heap.push A).push B) ++ os = w.heap ++ (#[A, B] ++ os) := by
  apply Array.ext'
  simp
 unfold grow World.drewN World.alloc
 simp only
 rw [← h]
set_option maxRecDepth 100000 in
theorem objects1_any (k s n k' s' n' : ByteArray) (a b c d e f a' b' c' d' e' f' : Value) (w : World) (hg : GW w) :
  Calls Tryd.prog 25 #[.agg #[.string k, .string s, .string n, a, b, c, d, e, f], .agg #[.string k', .string s', .string n', a', b', c', d', e', f']] w fun e w' => e = .returned (.int .i64 (cmpO k s n k' s' n')) ∧ ∃ q os, w' = grow (w.drewN q) os := by
 obtain ⟨R, hR⟩ : ∃ R, cmpO k s n k' s' n' = R := ⟨_, rfl⟩
 have hc := Lib.hid fun w hg => compare_any k s n k' s' n' w hg
 rw [hR] at hc ⊢
 have hg1 : GW ((w.alloc (.cells #[.string k, .string s, .string n, a, b, c, d, e, f] 64)).alloc (.cells #[.string k', .string s', .string n', a', b', c', d', e', f'] 64)) := hg.below (((Below.refl _ _).alloc (Nat.le_refl _) _).alloc (by simp) _)
 have HG := Lib.hid hg1
 clear hR hg hg1
 go_enter Tryd.func25, Tryd.ntmps25
 go_wp2_with (go_at_call 26; refine (hc.out _ HG.out).mono ?_; rintro e1 w1 ⟨rfl, q, os, rfl⟩)
 go_ret
 exact ⟨rfl, q, _, grow2 w _ _ q os⟩
theorem obC_len (o : Ob) : (obC o).length = 9 := rfl
theorem obC_clean (o : Ob) : ∀ c ∈ obC o, c.clean = true := by
 intro c hc
 simp at hc
 rcases hc with rfl | rfl | rfl | rfl | rfl | rfl | rfl | rfl | rfl <;> rfl
theorem cells9 {σ : Sg} {cs : List Value} {o : Ob} (h : RelL σ cs (obC o)) : ∃ a b c d e f, cs.toArray = #[.string o.k, .string o.s, .string o.n, a, b, c, d, e, f] := by
 have hl := h.1
 rcases cs with _ | ⟨x1, _ | ⟨x2, _ | ⟨x3, _ | ⟨x4, _ | ⟨x5, _ | ⟨x6, _ | ⟨x7, _ | ⟨x8, _ | ⟨x9, _ | ⟨_, _⟩⟩⟩⟩⟩⟩⟩⟩⟩⟩ <;> simp at hl
 have h1 : Rel1 σ x1 (.str o.k) := h.2 0 _ _ rfl rfl
 have h2 : Rel1 σ x2 (.str o.s) := h.2 1 _ _ rfl rfl
 have h3 : Rel1 σ x3 (.str o.n) := h.2 2 _ _ rfl rfl
 cases h1
 cases h2
 cases h3
 exact ⟨x4, x5, x6, x7, x8, x9, rfl⟩
theorem sortO_ms (l : List Ob) (hnd : (l.map obId).Nodup) (hlen : l.length ≤ 1000000) (cap m : Nat) (hcap : l.length ≤ cap) (hz : ((rowsO l).flatten ++ List.replicate m AV.top).length = cap * 9) :
  MS Tryd.prog 24 [(2000000, (rowsO l).flatten ++ List.replicate m AV.top)] [.sli 2000000 9 l.length cap, .fn 25 []] [(2000000, (rowsO (sortO l)).flatten ++ List.replicate m AV.top)] (.tup []) :=
 sort_ms Tryd.sortO (by kernel_rfl) Tryd.isAgg64 Tryd.sizeOf64 (fun o => obC o) obC_len obC_clean cmpI_ok obId hnd (by omega) (sortO_perm l) (sortO_sorted hnd) _ (enters_of Tryd.func25 (by kernel_rfl) rfl) (fun σ cs ds x y _ _ h1 h2 W hW => by
  obtain ⟨a, b, c, d, e, f, e1⟩ := cells9 h1
  obtain ⟨a', b', c', d', e', f', e2⟩ := cells9 h2
  rw [e1, e2]
  exact objects1_any _ _ _ _ _ _ _ _ _ _ _ _ _ _ _ _ _ _ W hW) cap m hcap hz
theorem sortNil_a (f : AV) (hf : f.arg = some f) : AC Tryd.prog 24 [.lst .any 9 [], f] (.tup []) := by
 refine ⟨by kernel_rfl, fun σ w vs hh hr hg => ?_⟩
 obtain ⟨v1, v2, rfl⟩ : ∃ a b, vs = [a, b] := by
  have := hr.1
  rcases vs with _ | ⟨a, _ | ⟨b, _ | ⟨_, _⟩⟩⟩ <;> simp at this
  exact ⟨a, b, rfl⟩
 have h1 : Rel1 σ v1 (.lst .any 9 []) := hr.2 0 v1 _ rfl rfl
 cases h1 with
 | lst t esz l A n cap b o f hn hlen hA hsz hσ hr ht =>
  subst hn
  refine (AnyF.slices_SortFunc_none Tryd.sortO A cap v2 w).mono ?_
  rintro e w' ⟨rfl, rfl⟩
  exact ⟨σ, .tuple #[], rfl, .refl _ _, hh, .refl _ _, [], rfl, rfl, fun j u x hu => by simp at hu⟩
abbrev enV (v : V) (n : Int) : List AV := [.int .i64 v.kind, .bool v.b, .int .i64 v.n, .str v.s, .lst .any 6 (rowsV v.l), .lst .any 7 (rowsM v.m), .int .i64 n]
abbrev rowE (e : CEnt) : MRow := ([.str e.id.k, .str e.id.s, .str e.id.n], enV e.body e.ver)
def rowsE (l : List CEnt) : List MRow := l.map fun e => rowE e
def obE (e : CEnt) : Ob := ⟨e.id.k, e.id.s, e.id.n, e.body⟩
abbrev cluX (c m : Nat) (cl : Clu) : List (Nat × List AV) := [(c, [.np m 0, .int .i64 cl.last, .lst .any 1 (rowsJ cl.fails), .int .i64 cl.fuse, .bool cl.down, npC]), (m, [mcA (rowsE cl.has)])]
def Clu.objects (cl : Clu) : List Ob := sortO (cl.has.map obE)
structure CluOk (cl : Clu) : Prop where
 nd : (cl.has.map fun e => e.id).Nodup
 size : ∀ e ∈ cl.has, e.body.size ≤ 1000000
 len : cl.has.length ≤ 1000000
theorem obE_nd {l : List CEnt} (h : (l.map fun e => e.id).Nodup) : ((l.map obE).map obId).Nodup := by
 rw [List.map_map]
 have e : l.map (obId ∘ obE) = (l.map fun e => e.id).map fun i => (i.k, i.s, i.n) := by rw [List.map_map]; rfl
 rw [e]
 rw [List.nodup_iff_pairwise_ne] at h ⊢
 exact List.pairwise_map.2 (h.imp fun {a b} hne e => hne (by cases a; cases b; simp at e; simp [e]))
theorem rowsE_split {l : List CEnt} {la lb : List MRow} {row : MRow} (h : rowsE l = la ++ row :: lb) : ∃ a e b, l = a ++ e :: b ∧ la = rowsE a ∧ row = rowE e ∧ lb = rowsE b := by
 unfold rowsE at h
 obtain ⟨a, b, rfl, h1, h2⟩ := List.map_eq_append_iff.1 h
 obtain ⟨e, b', rfl, h3, h4⟩ := List.map_eq_cons_iff.1 h2
 exact ⟨a, e, b', rfl, h1.symm, h3.symm, h4.symm⟩
theorem rowsO_ok (l : List Ob) : RowsOk 9 (rowsO l) := ⟨by omega, fun c hc => by
 obtain ⟨o, _, rfl⟩ := List.mem_map.1 hc
 exact ⟨rfl, rfl⟩⟩
theorem rowsO_flen (l : List Ob) : (rowsO l).flatten.length = l.length * 9 := by rw [(rowsO_ok l).flat.1, rowsO_len]
def obJ (r : Nat) (i : List CEnt × List CEnt × Nat × Nat) : Fr × St := match i.2.1 with
 | [] => (frOf [(3, .lst .nil 9 []), (12, itA r)], ⟨boxOf [], fun _ => 0⟩)
 | e :: l => (frOf [(3, .sli 1000001 9 (l.length + 1) i.2.2.1), (12, itA r)], ⟨boxOf [(1000001, (rowsO ((e :: l).map obE)).flatten ++ List.replicate i.2.2.2 AV.top, false)], fun _ => 0⟩)
def obI (has : List CEnt) (i : List CEnt × List CEnt × Nat × Nat) : Prop := (i.1 ++ i.2.1).Perm has ∧ i.2.1.length ≤ i.2.2.1 + (match i.2.1 with | [] => 1 | _ => 0) ∧ (i.2.1 ≠ [] → ((rowsO (i.2.1.map obE)).flatten ++ List.replicate i.2.2.2 AV.top).length = i.2.2.1 * 9)
def rhoO (i : Nat) : Nat := if i = 2000000 then 1000001 else if i = 1000001 then 2000000 else i
theorem rhoO_inj (i j : Nat) (h : rhoO i = rhoO j) : i = j := by
 unfold rhoO at h
 repeat' split at h
 all_goals omega
theorem rhoO_mp (i : Nat) : isMp (rhoO i) = isMp i := by
 unfold rhoO
 repeat' split
 all_goals first | (subst_vars; rfl) | rfl
end Go.Proofs.YtdncaodccgfniaaDoor
namespace Go.Proofs.YtdncaodccgfniaaDoor
open Go.RowKit Go.Maps Go.MapKept Go.ChangeMaps
theorem keyI_of {a b c : ByteArray} (ha : a.size ≤ 1000000) (hb : b.size ≤ 1000000) (hc : c.size ≤ 1000000) : KeyI a b c := by
 have h9 : Tryd.prog.underlying 9 = some .string := Tryd.underlying9
 have hs : ∀ (d : Nat) (x : ByteArray), x.size ≤ 1000000 → Tryd.prog.keyLits (d + 1) 9 [.string x] = some [.string x.data.toList] := fun d x hx => by
  have : x.size ≤ maxLen := by unfold maxLen; omega
  simp [Program.keyLits, h9, this]
 have c9 : Tryd.prog.cellsOf 9 = 1 := by kernel_rfl
 have hk : ∀ n, Tryd.prog.keyLits (n + 2) 31 [.string a, .string b, .string c] = some [.string a.data.toList, .string b.data.toList, .string c.data.toList] := fun n => by
  have e1 := hs n a ha
  have e2 := hs n b hb
  have e3 := hs n c hc
  have ez : Tryd.prog.cellsOf 31 = 3 := by kernel_rfl
  unfold Program.keyLits
  simp [Tryd.underlying31, c9, e1, e2, e3, ez]
 obtain ⟨n, hn⟩ : ∃ n, Tryd.prog.types.size + 1 = n + 2 := ⟨Tryd.prog.types.size - 1, by
  have : 1 ≤ Tryd.prog.types.size := of_decide_eq_true (by kernel_rfl)
  omega⟩
 unfold KeyI keyOf
 rw [Tryd.underlying31]
 simp only
 rw [if_pos (by kernel_rfl), hn]
 rw [show (Value.agg #[.string a, .string b, .string c]).cells.toList = [.string a, .string b, .string c] from rfl, hk]
 exact ⟨_, rfl⟩
structure CluK (cl : Clu) : Prop where
 ok : CluOk cl
 ids : ∀ e ∈ cl.has, e.id.k.size ≤ 1000000 ∧ e.id.s.size ≤ 1000000 ∧ e.id.n.size ≤ 1000000
 last : 0 ≤ cl.last ∧ cl.last ≤ 1000000000
 fuse : -1000 ≤ cl.fuse ∧ cl.fuse ≤ 1000
 fails : (∀ n ∈ cl.fails, -1000000 ≤ n ∧ n ≤ 1000000) ∧ cl.fails.length ≤ 1000000
abbrev idA (i : OId) : List AV := [.str i.k, .str i.s, .str i.n]
theorem idA_inj {a b : OId} (h : idA a = idA b) : a = b := by
 cases a
 cases b
 simp at h
 simp [h]
theorem keys_ok {l : List CEnt} (h : ∀ e ∈ l, e.id.k.size ≤ 1000000 ∧ e.id.s.size ≤ 1000000 ∧ e.id.n.size ≤ 1000000) : KeysOk Tryd.prog 31 (rowsE l) := fun r hr => by
 obtain ⟨e, he, rfl⟩ := List.mem_map.1 hr
 obtain ⟨h1, h2, h3⟩ := h e he
 obtain ⟨l, hl⟩ := keyI_of h1 h2 h3
 exact ⟨_, l, keyV_id _ _ _, hl⟩
theorem rowsE_put (l : List CEnt) (e : CEnt) : putR (rowsE l) (idA e.id) (enV e.body e.ver) = rowsE (putE l e) := by
 unfold putR putE
 by_cases h : l.any (fun x => decide (x.id = e.id)) = true
 ·rw [if_pos h]
  obtain ⟨x, hx, hxe⟩ := List.any_eq_true.1 h
  rw [if_pos ⟨rowE x, List.mem_map.2 ⟨x, hx, rfl⟩, by rw [← of_decide_eq_true hxe]⟩]
  unfold rowsE
  rw [List.map_map, List.map_map]
  refine List.map_congr_left fun y _ => ?_
  simp only [Function.comp]
  by_cases hy : y.id = e.id
  ·rw [if_pos (by rw [← hy]), if_pos hy]
  ·rw [if_neg (fun k => hy (idA_inj k)), if_neg hy]
 ·rw [if_neg h, if_neg]
  ·unfold rowsE
   rw [List.map_append]
   rfl
  ·rintro ⟨r, hr, hk⟩
   obtain ⟨x, hx, rfl⟩ := List.mem_map.1 hr
   exact h (List.any_eq_true.2 ⟨x, hx, decide_eq_true (idA_inj hk)⟩)
theorem rowsE_find (cl : Clu) (i : OId) : Found (rowsE cl.has) (idA i) ((cl.find i).map fun e => enV e.body e.ver) := by
 cases h : cl.find i with
 | none =>
  intro r hr hk
  obtain ⟨e, he, rfl⟩ := List.mem_map.1 hr
  exact find_none.1 h e he (idA_inj hk)
 | some e =>
  unfold Clu.find at h
  have h1 := List.find?_some h
  have h2 := List.mem_of_find?_eq_some h
  refine List.mem_map.2 ⟨e, h2, ?_⟩
  rw [← of_decide_eq_true h1]
theorem enV_tup (v : V) (n : Int) : ∀ c ∈ enV v n, c.isTup = false := by
 intro c hc
 simp at hc
 rcases hc with rfl | rfl | rfl | rfl | rfl | rfl | rfl <;> rfl
theorem enV_val (v : V) (n : Int) : ∀ c ∈ enV v n, c.isVal = true := by
 intro c hc
 simp at hc
 rcases hc with rfl | rfl | rfl | rfl | rfl | rfl | rfl <;> rfl
theorem getN_g (cl : Clu) (hk : CluK cl) {i : OId} (hi : KeyI i.k i.s i.n) (h : cl.find i = none) : MOp Tryd.prog (.get 46 true) [(2900001, [mcA (rowsE cl.has)])] [.np 2900001 0, .agg (idA i)] [(2900001, [mcA (rowsE cl.has)])] (.tup [.agg zE, .bool false]) := by
 obtain ⟨l, hl⟩ := hi
 have hf := rowsE_find cl i
 rw [h] at hf
 exact mop_get (z := zE) (o := none) true rfl Tryd.underlying46 keyedID (keys_ok hk.ids) (keyV_id i.k i.s i.n) hl zero_e zero_relE hf (by
  intro c hc
  simp at hc
  rcases hc with rfl | rfl | rfl | rfl | rfl | rfl | rfl <;> rfl)
theorem getS_g (cl : Clu) (hk : CluK cl) {i : OId} (hi : KeyI i.k i.s i.n) {e : CEnt} (h : cl.find i = some e) : MOp Tryd.prog (.get 46 true) [(2900001, [mcA (rowsE cl.has)])] [.np 2900001 0, .agg (idA i)] [(2900001, [mcA (rowsE cl.has)])] (.tup [.agg (enV e.body e.ver), .bool true]) := by
 obtain ⟨l, hl⟩ := hi
 have hf := rowsE_find cl i
 rw [h] at hf
 exact mop_get (z := zE) (o := some (enV e.body e.ver)) true rfl Tryd.underlying46 keyedID (keys_ok hk.ids) (keyV_id i.k i.s i.n) hl zero_e zero_relE hf (enV_tup _ _)
theorem setE_g (cl : Clu) (hk : CluK cl) {i : OId} (hi : KeyI i.k i.s i.n) (v : V) (n : Int) : MOp Tryd.prog (.set 46) [(2900001, [mcA (rowsE cl.has)])] [.np 2900001 0, .agg (idA i), .agg (enV v n)] [(2900001, [mcA (rowsE (putE cl.has ⟨i, v, n⟩))])] (.bool true) := by
 obtain ⟨l, hl⟩ := hi
 rw [← rowsE_put]
 exact mop_set (vc := enV v n) rfl Tryd.underlying46 keyedID (keys_ok hk.ids) (keyV_id i.k i.s i.n) hl (enV_val v n)
theorem put_g (cl : Clu) (hk : CluK cl) {i : OId} (hi : KeyI i.k i.s i.n) (v : V) (hv : v.size ≤ 1000000) : MS Tryd.prog 19 (cluX 2000000 2900001 cl) [.np 2000000 0, .agg (idA i), (vA (v))] (cluX 2000000 2900001 (cl.put i v)) (.tup []) := by
 have hc : AC Tryd.prog 22 [(vA (v))] ((vA (v))) := clone_ok v (by omega)
 have hl := hk.last
 obtain ⟨has, last, fails, fuse, down⟩ := cl
 have e1 : last + 1 = IntKind.i64.wrap (last + 1) := (wrap_in (by dsimp only at hl; omega) (by dsimp only at hl; omega)).symm
 have hs := setE_g _ hk hi v (last + 1)
 unfold Clu.put
 dsimp only at hs ⊢
 rw [e1] at hs ⊢
 refine MS.enter Tryd.func19 a_cluster_Cluster_put_ok a_cluster_Cluster_put_cb (by rfl) (by rfl) fun E hE => ?_
 show AK _ _ _ [.c b_cluster_Cluster_put] _ _
 rw [b_cluster_Cluster_put]
 refine kW ?_
 refine kQ [.v ((vA (v))), .s [2900001] [(2900001, [mcA (rowsE (putE has ⟨i, v, IntKind.i64.wrap (last + 1)⟩))])] (.bool true)] ?_
 refine kW ?_
 show RQS _ _ _ .normal _ _
 exact ⟨⟨_, rfl, rfl⟩, ⟨_, rfl, rfl⟩, ⟨_, rfl, rfl⟩, trivial⟩
theorem write_g (cl : Clu) (hk : CluK cl) : MS Tryd.prog 17 (cluX 2000000 2900001 cl) [.np 2000000 0] (cluX 2000000 2900001 cl.write.2) (.int .i64 cl.write.1) := by
 have hfu := hk.fuse
 have hfa := hk.fails
 obtain ⟨has, last, fails, fuse, down⟩ := cl
 dsimp only at hfu hfa
 have hcn := contains_j 0 fails hfa.2
 have had := add_a 4
 have hll := leftJ_len fails
 unfold Clu.write
 refine MS.enter Tryd.func17 a_cluster_Cluster_write_ok a_cluster_Cluster_write_cb (by rfl) (by rfl) fun E hE => ?_
 show AK _ _ _ [.c b_cluster_Cluster_write] _ _
 rw [b_cluster_Cluster_write]
 cases down with
 | true =>
  rw [if_pos (by rfl)]
  refine kW ?_
  refine kP [] ?_ ?_
  ·((repeat' apply And.intro) <;> first | exact kD | (intro hgd; refine ⟨?_, kG⟩; (repeat' apply And.intro) <;> first | exact kD | skip) | skip)
   ·exact fun g o => someClu false g o
  refine kCf ?_
  refine kW ?_
  refine kQ [] ?_
  refine kCt ?_
  refine kW ?_
  exact AK.ret ⟨⟨_, rfl, rfl⟩, ⟨_, rfl, rfl⟩, ⟨_, rfl, rfl⟩, trivial⟩
 | false =>
  refine kW ?_
  refine kP [] ?_ ?_
  ·((repeat' apply And.intro) <;> first | exact kD | (intro hgd; refine ⟨?_, kG⟩; (repeat' apply And.intro) <;> first | exact kD | skip) | skip)
   ·exact fun g o => someClu false g o
  refine kCf ?_
  refine kW ?_
  refine kQ [] ?_
  refine kC (fun hb => ?_) fun hb => ?_
  ·have hf0 : fuse = 0 := by simpa using hb
   rw [if_pos (by simp [hf0])]
   refine kW ?_
   exact AK.ret ⟨⟨_, rfl, rfl⟩, ⟨_, rfl, rfl⟩, ⟨_, rfl, rfl⟩, trivial⟩
  ·have hf0 : fuse ≠ 0 := by simpa using hb
   rw [if_neg (by simp [hf0])]
   clear hb
   refine kW ?_
   refine AK.cut (frOf [(0, .np 2000000 0)]) ⟨boxOf [(2000000, [.np 2900001 0, .int .i64 last, .lst .any 1 (rowsJ fails), .int .i64 (if 0 < fuse then fuse - 1 else fuse), .bool false, npC], false), (2900001, [mcA (rowsE has)], false)], fun _ => 0⟩ ?_ ?_
   ·refine kC (fun hb => ?_) fun hb => ?_
    ·have hl : 0 < fuse := by simpa using hb
     rw [if_pos hl, show fuse - 1 = IntKind.i64.wrap (fuse - 1) from (wrap_in (by omega) (by omega)).symm]
     refine kW ?_
     exact AK.cutEnd (Weak.introN ⟨kI, trivial⟩ ⟨kJ, kJ, trivial⟩ rfl rfl ⟨rfl, rfl, trivial⟩)
    ·have hl : ¬ 0 < fuse := by simpa using hb
     rw [if_neg hl]
     refine kW ?_
     exact AK.cutEnd (Weak.introN ⟨kI, trivial⟩ ⟨kJ, kJ, trivial⟩ rfl rfl ⟨rfl, rfl, trivial⟩)
   generalize hfq : (if 0 < fuse then fuse - 1 else fuse) = fq
   refine kW ?_
   refine kQ [.v (.bool (decide (0 ∈ fails)))] ?_
   refine kW ?_
   refine AK.loopI (fun i : Nat × (Nat → Nat) => (frOf [(0, .np 2000000 0), (3, .bool (decide (0 ∈ fails))), (4, .lst (.own 58 (i.2 58)) 1 (rowsJ (leftJ (fails.take i.1)))), (46, .lst .any 1 (rowsJ fails)), (47, .int .i64 (rowsJ fails).length), (48, .int .i64 i.1)], ⟨boxOf [(2000000, [.np 2900001 0, .int .i64 last, .lst .any 1 (rowsJ fails), .int .i64 fq, .bool false, npC], false), (2900001, [mcA (rowsE has)], false)], i.2⟩))
    (fun i => i.1 ≤ fails.length) (fun i => fails.length - i.1) (0, fun _ => 0) (Nat.zero_le _) (Weak.introN ⟨kI, kI, ⟨_, rfl, .one (.own _ _ _ _)⟩, kI, kI, kI, trivial⟩ ⟨kJ, kJ, trivial⟩ rfl rfl ⟨rfl, rfl, trivial⟩) fun ⟨k, r⟩ hk => ?_
   dsimp only at hk
   refine kW ?_
   refine kC (fun hb => ?_) fun hb => ?_
   ·have hlt : k < fails.length := by simpa [rowsJ_len] using hb
    obtain ⟨n, hg⟩ : ∃ x, fails[k]? = some x := ⟨_, List.getElem?_eq_getElem hlt⟩
    have hnb := hfa.1 n (List.mem_of_getElem? hg)
    have hst := leftJ_take hg
    have hfl := leftJ_len (fails.take k)
    rw [List.length_take] at hfl
    refine kW ?_
    refine kP [.c [.int .i64 n]] ?_ ?_
    ·((repeat' apply And.intro) <;> first | exact kD | (intro hgd; refine ⟨?_, kG⟩; (repeat' apply And.intro) <;> first | exact kD | skip) | skip)
     all_goals exact rowsJ_at hg
    refine kW ?_
    refine kC (fun hb => ?_) fun hb => ?_
    ·have hn : 0 < n := by simpa using hb
     rw [if_pos hn] at hst
     refine kW ?_
     refine kP [] ?_ ?_
     ·((repeat' apply And.intro) <;> first | exact kD | (intro hgd; refine ⟨?_, kG⟩; (repeat' apply And.intro) <;> first | exact kD | skip) | skip)
      all_goals simp only [rowsJ_len, List.length_nil, List.length_cons]
      all_goals omega
     refine kW ?_
     exact AK.lp ⟨(k + 1, _), by dsimp only; omega, Weak.introN ⟨kI, kI, ⟨_, rfl, .of_eq (congrArg (AV.lst _ 1) (by rw [hst, rowsJ_snoc, wrap_in (by omega) (by omega)]; rfl))⟩, kI, kI, kU, trivial⟩ ⟨kJ, kJ, trivial⟩ rfl rfl ⟨rfl, rfl, trivial⟩, by dsimp only; omega⟩
    ·have hn : ¬ 0 < n := by simpa using hb
     rw [if_neg hn, List.append_nil] at hst
     refine kW ?_
     exact AK.lp ⟨(k + 1, r), by dsimp only; omega, Weak.introN ⟨kI, kI, ⟨_, rfl, .of_eq (congrArg (AV.lst _ 1) (by rw [hst]))⟩, kI, kI, kU, trivial⟩ ⟨kJ, kJ, trivial⟩ rfl rfl ⟨rfl, rfl, trivial⟩, by dsimp only; omega⟩
   ·have hlt : k = fails.length := by
     have : fails.length ≤ k := by simpa [rowsJ_len] using hb
     omega
    subst hlt
    rw [List.take_length]
    refine AK.exit rfl ?_
    refine kW ?_
    by_cases h0 : (0 : Int) ∈ fails
    ·rw [if_pos h0]
     refine AK.weak (Weak.introN (L := [(0, .np 2000000 0), (64, .bool true)]) (BL := [(2000000, [.np 2900001 0, .int .i64 last, .lst .any 1 (rowsJ (leftJ fails)), .int .i64 fq, .bool false, npC], false), (2900001, [mcA (rowsE has)], false)]) ⟨kI, ⟨_, rfl, by rw [decide_eq_true h0]; exact .refl _⟩, trivial⟩ ⟨⟨_, rfl, .refl _, .refl _, .any _ 1 _, .refl _, .refl _, .refl _, trivial⟩, kJ, trivial⟩ rfl rfl ⟨rfl, rfl, trivial⟩) ?_
     refine kCt ?_
     refine kW ?_
     refine kQ [.v (.int .i64 0)] ?_
     refine kW ?_
     exact AK.ret ⟨⟨_, rfl, rfl⟩, ⟨_, rfl, rfl⟩, ⟨_, rfl, rfl⟩, trivial⟩
    ·rw [if_neg h0]
     refine AK.weak (Weak.introN (L := [(0, .np 2000000 0), (64, .bool false)]) (BL := [(2000000, [.np 2900001 0, .int .i64 last, .lst .any 1 (rowsJ (leftJ fails)), .int .i64 fq, .bool false, npC], false), (2900001, [mcA (rowsE has)], false)]) ⟨kI, ⟨_, rfl, by rw [decide_eq_false h0]; exact .refl _⟩, trivial⟩ ⟨⟨_, rfl, .refl _, .refl _, .any _ 1 _, .refl _, .refl _, .refl _, trivial⟩, kJ, trivial⟩ rfl rfl ⟨rfl, rfl, trivial⟩) ?_
     refine kCf ?_
     refine kW ?_
     exact AK.ret ⟨⟨_, rfl, rfl⟩, ⟨_, rfl, rfl⟩, ⟨_, rfl, rfl⟩, trivial⟩
theorem CluK.write {cl : Clu} (h : CluK cl) : CluK cl.write.2 := by
 obtain ⟨⟨h1, h2, h3⟩, h4, h5, h6, h7, h8⟩ := h
 unfold Clu.write
 split
 ·exact ⟨⟨h1, h2, h3⟩, h4, h5, h6, h7, h8⟩
 ·refine ⟨⟨h1, h2, h3⟩, h4, h5, ?_, ?_, ?_⟩
  ·dsimp only
   split <;> omega
  ·intro n hn
   obtain ⟨m, hm, rfl⟩ := List.mem_map.1 hn
   obtain ⟨hm1, hm2⟩ := List.mem_filter.1 hm
   have hp : 0 < m := by simpa using hm2
   have := h7 m hm1
   omega
  ·exact Nat.le_trans (leftJ_len cl.fails) h8
theorem putE_all {l : List CEnt} {e : CEnt} {P : CEnt → Prop} (h : ∀ x ∈ l, P x) (he : P e) : ∀ x ∈ putE l e, P x := by
 unfold putE
 split
 ·intro x hx
  obtain ⟨y, hy, rfl⟩ := List.mem_map.1 hx
  split
  ·exact he
  ·exact h y hy
 ·intro x hx
  rcases List.mem_append.1 hx with hx | hx
  ·exact h x hx
  ·rw [List.mem_singleton.1 hx]; exact he
theorem putE_nd {l : List CEnt} {e : CEnt} (h : (l.map fun e => e.id).Nodup) : ((putE l e).map fun e => e.id).Nodup := by
 unfold putE
 split
 ·rw [List.map_map]
  rw [show l.map ((fun e : CEnt => e.id) ∘ fun x => if x.id = e.id then e else x) = l.map fun e => e.id from List.map_congr_left fun x _ => by
   simp only [Function.comp]
   split
   ·rename_i hx; exact hx.symm
   ·rfl]
  exact h
 ·rename_i hn
  rw [List.map_append, List.nodup_append]
  refine ⟨h, by simp, fun a ha b hb e' => ?_⟩
  simp at hb
  subst hb
  obtain ⟨x, hx, rfl⟩ := List.mem_map.1 ha
  exact hn (List.any_eq_true.2 ⟨x, hx, decide_eq_true e'⟩)
theorem putE_len (l : List CEnt) (e : CEnt) : (putE l e).length ≤ l.length + 1 := by
 unfold putE
 split <;> simp
theorem CluK.put {cl : Clu} (h : CluK cl) {i : OId} {v : V} (hi : i.k.size ≤ 1000000 ∧ i.s.size ≤ 1000000 ∧ i.n.size ≤ 1000000) (hv : v.size ≤ 1000000) (hl : cl.has.length < 1000000) (hla : cl.last < 1000000000) : CluK (cl.put i v) := by
 obtain ⟨⟨h1, h2, h3⟩, h4, h5, h6, h7⟩ := h
 refine ⟨⟨putE_nd h1, putE_all (P := fun e => e.body.size ≤ 1000000) h2 hv, ?_⟩, putE_all (P := fun e : CEnt => e.id.k.size ≤ 1000000 ∧ e.id.s.size ≤ 1000000 ∧ e.id.n.size ≤ 1000000) h4 hi, ?_, h6, h7⟩
 ·have := putE_len cl.has ⟨i, v, cl.last + 1⟩
  show (putE cl.has ⟨i, v, cl.last + 1⟩).length ≤ _
  omega
 ·show 0 ≤ cl.last + 1 ∧ cl.last + 1 ≤ _
  omega
theorem down_g (cl : Clu) : MS Tryd.prog 11 (cluX 2000000 2900001 cl) [.np 2000000 0] (cluX 2000000 2900001 cl) (.bool cl.down) := by
 obtain ⟨has, last, fails, fuse, down⟩ := cl
 refine MS.enter Tryd.func11 a_cluster_Cluster_Down_ok a_cluster_Cluster_Down_cb (by rfl) (by rfl) fun E hE => ?_
 show AK _ _ _ [.c b_cluster_Cluster_Down] _ _
 rw [b_cluster_Cluster_Down]
 refine kW ?_
 refine kP [] ?_ ?_
 ·((repeat' apply And.intro) <;> first | exact kD | (intro hgd; refine ⟨?_, kG⟩; (repeat' apply And.intro) <;> first | exact kD | skip) | skip)
  ·exact fun g o => someClu true g o
 refine kW ?_
 exact AK.ret ⟨⟨_, rfl, rfl⟩, ⟨_, rfl, rfl⟩, ⟨_, rfl, rfl⟩, trivial⟩
end Go.Proofs.YtdncaodccgfniaaDoor
