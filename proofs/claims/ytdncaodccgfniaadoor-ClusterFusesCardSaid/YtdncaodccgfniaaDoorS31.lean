/-
  The texts that the claim wants, one behind the other: part 31.
-/
import Derived.Test.YtdncaodccgfniaaDoorS30
set_option linter.unusedSimpArgs false
set_option linter.unusedVariables false
namespace Go.Proofs.YtdncaodccgfniaaDoor
open Go.RowKit Go.Sort Go.Lib Go.Shelf
abbrev obId (o : Ob) : Id3 := (o.k, o.s, o.n)
def sortO (l : List Ob) : List Ob := l.mergeSort fun a b => decide (cmpI (obId a) (obId b) ≤ 0)
theorem sortO_perm (l : List Ob) : (sortO l).Perm l := List.mergeSort_perm _ _
theorem sortO_sorted {l : List Ob} (hnd : (l.map obId).Nodup) : (sortO l).Pairwise fun x y => cmpI (obId x) (obId y) < 0 := by
 have hs := List.pairwise_mergeSort (le := fun a b : Ob => decide (cmpI (obId a) (obId b) ≤ 0)) (fun x y z h k => by
  have h := of_decide_eq_true h
  have k := of_decide_eq_true k
  refine decide_eq_true ?_
  by_cases e1 : cmpI (obId x) (obId y) = 0
  ·rw [(cmpI_ok.eq _ _).1 e1]; exact k
  ·by_cases e2 : cmpI (obId y) (obId z) = 0
   ·rw [← (cmpI_ok.eq _ _).1 e2]; exact h
   ·have := cmpI_ok.trans (obId x) (obId y) (obId z) (by omega) (by omega)
    omega) (fun x y => by
  rw [Bool.or_eq_true, decide_eq_true_eq, decide_eq_true_eq]
  have := cmpI_ok.anti (obId x) (obId y)
  omega) l
 have hp : ((sortO l).map obId).Nodup := ((sortO_perm l).map obId).nodup_iff.2 hnd
 have hp : (sortO l).Pairwise fun x y => obId x ≠ obId y := List.pairwise_map.1 hp
 refine (hs.and hp).imp fun {a b} h => ?_
 have h1 := of_decide_eq_true h.1
 have h2 : cmpI (obId a) (obId b) ≠ 0 := fun e => h.2 ((cmpI_ok.eq _ _).1 e)
 omega
theorem sortO_one {l l' : List Ob} (hnd : (l.map obId).Nodup) (hp : l.Perm l') : sortO l = sortO l' := by
 have hnd' : (l'.map obId).Nodup := (hp.map obId).nodup_iff.1 hnd
 exact sorted_one cmpI_ok obId ((sortO_perm l).trans (hp.trans (sortO_perm l').symm)) (sortO_sorted hnd) (sortO_sorted hnd')
theorem grow2 (w : World) (A B : Obj) (q : Nat) (os : Array Obj) : grow (((w.alloc A).alloc B).drewN q) os = grow (w.drewN q) (#[A, B] ++ os) := by
 have h : ((w.heap.push A).push B) ++ os = w.heap ++ (#[A, B] ++ os) := by
  apply Array.ext'
  simp
 unfold grow World.drewN World.alloc
 simp only
 rw [← h]
set_option maxRecDepth 100000 in
theorem objects1_any (k s n k' s' n' : ByteArray) (a b c d e f a' b' c' d' e' f' : Value) (w : World) (hg : GW w) :
  Calls Tryd.prog 25 #[.agg #[.string k, .string s, .string n, a, b, c, d, e, f], .agg #[.string k', .string s', .string n', a', b', c', d', e', f']] w fun e w' => e = .returned (.int .i64 (cmpO k s n k' s' n')) ∧ ∃ q os, w' = grow (w.drewN q) os := by
 obtain ⟨R, hR⟩ : ∃ R, cmpO k s n k' s' n' = R := ⟨_, rfl⟩
 have hc := Lib.hid fun w hg => compare_any k s n k' s' n' w hg
 rw [hR] at hc ⊢
 have hg1 : GW ((w.alloc (.cells #[.string k, .string s, .string n, a, b, c, d, e, f] 64)).alloc (.cells #[.string k', .string s', .string n', a', b', c', d', e', f'] 64)) := hg.below (((Below.refl _ _).alloc (Nat.le_refl _) _).alloc (by simp) _)
 have HG := Lib.hid hg1
 clear hR hg hg1
 go_enter Tryd.func25, Tryd.ntmps25
 go_wp2_with (go_at_call 26; refine (hc.out _ HG.out).mono ?_; rintro e1 w1 ⟨rfl, q, os, rfl⟩)
 go_ret
 exact ⟨rfl, q, _, grow2 w _ _ q os⟩
theorem obC_len (o : Ob) : (obC o).length = 9 := rfl
theorem obC_clean (o : Ob) : ∀ c ∈ obC o, c.clean = true := by
 intro c hc
 simp at hc
 rcases hc with rfl | rfl | rfl | rfl | rfl | rfl | rfl | rfl | rfl <;> rfl
theorem cells9 {σ : Sg} {cs : List Value} {o : Ob} (h : RelL σ cs (obC o)) : ∃ a b c d e f, cs.toArray = #[.string o.k, .string o.s, .string o.n, a, b, c, d, e, f] := by
 have hl := h.1
 rcases cs with _ | ⟨x1, _ | ⟨x2, _ | ⟨x3, _ | ⟨x4, _ | ⟨x5, _ | ⟨x6, _ | ⟨x7, _ | ⟨x8, _ | ⟨x9, _ | ⟨_, _⟩⟩⟩⟩⟩⟩⟩⟩⟩⟩ <;> simp at hl
 have h1 : Rel1 σ x1 (.str o.k) := h.2 0 _ _ rfl rfl
 have h2 : Rel1 σ x2 (.str o.s) := h.2 1 _ _ rfl rfl
 have h3 : Rel1 σ x3 (.str o.n) := h.2 2 _ _ rfl rfl
 cases h1
 cases h2
 cases h3
 exact ⟨x4, x5, x6, x7, x8, x9, rfl⟩
theorem sortO_ms (l : List Ob) (hnd : (l.map obId).Nodup) (hlen : l.length ≤ 1000000) (cap m : Nat) (hcap : l.length ≤ cap) (hz : ((rowsO l).flatten ++ List.replicate m AV.top).length = cap * 9) :
  MS Tryd.prog 24 [(2000000, (rowsO l).flatten ++ List.replicate m AV.top)] [.sli 2000000 9 l.length cap, .fn 25 []] [(2000000, (rowsO (sortO l)).flatten ++ List.replicate m AV.top)] (.tup []) :=
 sort_ms Tryd.sortO (by kernel_rfl) Tryd.isAgg64 Tryd.sizeOf64 (fun o => obC o) obC_len obC_clean cmpI_ok obId hnd (by omega) (sortO_perm l) (sortO_sorted hnd) _ (enters_of Tryd.func25 (by kernel_rfl) rfl) (fun σ cs ds x y _ _ h1 h2 W hW => by
  obtain ⟨a, b, c, d, e, f, e1⟩ := cells9 h1
  obtain ⟨a', b', c', d', e', f', e2⟩ := cells9 h2
  rw [e1, e2]
  exact objects1_any _ _ _ _ _ _ _ _ _ _ _ _ _ _ _ _ _ _ W hW) cap m hcap hz
theorem sortNil_a (f : AV) (hf : f.arg = some f) : AC Tryd.prog 24 [.lst .any 9 [], f] (.tup []) := by
 refine ⟨by kernel_rfl, fun σ w vs hh hr hg => ?_⟩
 obtain ⟨v1, v2, rfl⟩ : ∃ a b, vs = [a, b] := by
  have := hr.1
  rcases vs with _ | ⟨a, _ | ⟨b, _ | ⟨_, _⟩⟩⟩ <;> simp at this
  exact ⟨a, b, rfl⟩
 have h1 : Rel1 σ v1 (.lst .any 9 []) := hr.2 0 v1 _ rfl rfl
 cases h1 with
 | lst t esz l A n cap b o f hn hlen hA hsz hσ hr ht =>
  subst hn
  refine (AnyF.slices_SortFunc_none Tryd.sortO A cap v2 w).mono ?_
  rintro e w' ⟨rfl, rfl⟩
  exact ⟨σ, .tuple #[], rfl, .refl _ _, hh, .refl _ _, [], rfl, rfl, fun j u x hu => by simp at hu⟩
abbrev enV (v : V) (n : Int) : List AV := [.int .i64 v.kind, .bool v.b, .int .i64 v.n, .str v.s, .lst .any 6 (rowsV v.l), .lst .any 7 (rowsM v.m), .int .i64 n]
abbrev rowE (e : CEnt) : MRow := ([.str e.id.k, .str e.id.s, .str e.id.n], enV e.body e.ver)
def rowsE (l : List CEnt) : List MRow := l.map fun e => rowE e
def obE (e : CEnt) : Ob := ⟨e.id.k, e.id.s, e.id.n, e.body⟩
abbrev cluX (c m : Nat) (cl : Clu) : List (Nat × List AV) := [(c, [.np m 0, .int .i64 cl.last, .lst .any 1 [], .int .i64 cl.fuse, .bool cl.down, npC]), (m, [mcA (rowsE cl.has)])]
def Clu.objects (cl : Clu) : List Ob := sortO (cl.has.map obE)
structure CluOk (cl : Clu) : Prop where
 nd : (cl.has.map fun e => e.id).Nodup
 size : ∀ e ∈ cl.has, e.body.size ≤ 1000000
 len : cl.has.length ≤ 1000000
theorem obE_nd {l : List CEnt} (h : (l.map fun e => e.id).Nodup) : ((l.map obE).map obId).Nodup := by
 rw [List.map_map]
 have e : l.map (obId ∘ obE) = (l.map fun e => e.id).map fun i => (i.k, i.s, i.n) := by rw [List.map_map]; rfl
 rw [e]
 rw [List.nodup_iff_pairwise_ne] at h ⊢
 exact List.pairwise_map.2 (h.imp fun {a b} hne e => hne (by cases a; cases b; simp at e; simp [e]))
theorem rowsE_split {l : List CEnt} {la lb : List MRow} {row : MRow} (h : rowsE l = la ++ row :: lb) : ∃ a e b, l = a ++ e :: b ∧ la = rowsE a ∧ row = rowE e ∧ lb = rowsE b := by
 unfold rowsE at h
 obtain ⟨a, b, rfl, h1, h2⟩ := List.map_eq_append_iff.1 h
 obtain ⟨e, b', rfl, h3, h4⟩ := List.map_eq_cons_iff.1 h2
 exact ⟨a, e, b', rfl, h1.symm, h3.symm, h4.symm⟩
theorem rowsO_ok (l : List Ob) : RowsOk 9 (rowsO l) := ⟨by omega, fun c hc => by
 obtain ⟨o, _, rfl⟩ := List.mem_map.1 hc
 exact ⟨rfl, rfl⟩⟩
theorem rowsO_flen (l : List Ob) : (rowsO l).flatten.length = l.length * 9 := by rw [(rowsO_ok l).flat.1, rowsO_len]
def obJ (r : Nat) (i : List CEnt × List CEnt × Nat × Nat) : Fr × St := match i.2.1 with
 | [] => (frOf [(3, .lst .nil 9 []), (12, itA r)], ⟨boxOf [], fun _ => 0⟩)
 | e :: l => (frOf [(3, .sli 1000001 9 (l.length + 1) i.2.2.1), (12, itA r)], ⟨boxOf [(1000001, (rowsO ((e :: l).map obE)).flatten ++ List.replicate i.2.2.2 AV.top, false)], fun _ => 0⟩)
def obI (has : List CEnt) (i : List CEnt × List CEnt × Nat × Nat) : Prop := (i.1 ++ i.2.1).Perm has ∧ i.2.1.length ≤ i.2.2.1 + (match i.2.1 with | [] => 1 | _ => 0) ∧ (i.2.1 ≠ [] → ((rowsO (i.2.1.map obE)).flatten ++ List.replicate i.2.2.2 AV.top).length = i.2.2.1 * 9)
def rhoO (i : Nat) : Nat := if i = 2000000 then 1000001 else if i = 1000001 then 2000000 else i
theorem rhoO_inj (i j : Nat) (h : rhoO i = rhoO j) : i = j := by
 unfold rhoO at h
 repeat' split at h
 all_goals omega
theorem rhoO_mp (i : Nat) : isMp (rhoO i) = isMp i := by
 unfold rhoO
 repeat' split
 all_goals first | (subst_vars; rfl) | rfl
end Go.Proofs.YtdncaodccgfniaaDoor
namespace Go.Proofs.YtdncaodccgfniaaDoor
open Go.RowKit Go.Maps Go.MapKept Go.ChangeMaps
theorem keyI_of {a b c : ByteArray} (ha : a.size ≤ 1000000) (hb : b.size ≤ 1000000) (hc : c.size ≤ 1000000) : KeyI a b c := by
 have h9 : Tryd.prog.underlying 9 = some .string := Tryd.underlying9
 have hs : ∀ (d : Nat) (x : ByteArray), x.size ≤ 1000000 → Tryd.prog.keyLits (d + 1) 9 [.string x] = some [.string x.data.toList] := fun d x hx => by
  have : x.size ≤ maxLen := by unfold maxLen; omega
  simp [Program.keyLits, h9, this]
 have c9 : Tryd.prog.cellsOf 9 = 1 := by kernel_rfl
 have hk : ∀ n, Tryd.prog.keyLits (n + 2) 31 [.string a, .string b, .string c] = some [.string a.data.toList, .string b.data.toList, .string c.data.toList] := fun n => by
  have e1 := hs n a ha
  have e2 := hs n b hb
  have e3 := hs n c hc
  have ez : Tryd.prog.cellsOf 31 = 3 := by kernel_rfl
  unfold Program.keyLits
  simp [Tryd.underlying31, c9, e1, e2, e3, ez]
 obtain ⟨n, hn⟩ : ∃ n, Tryd.prog.types.size + 1 = n + 2 := ⟨Tryd.prog.types.size - 1, by
  have : 1 ≤ Tryd.prog.types.size := of_decide_eq_true (by kernel_rfl)
  omega⟩
 unfold KeyI keyOf
 rw [Tryd.underlying31]
 simp only
 rw [if_pos (by kernel_rfl), hn]
 rw [show (Value.agg #[.string a, .string b, .string c]).cells.toList = [.string a, .string b, .string c] from rfl, hk]
 exact ⟨_, rfl⟩
structure CluK (cl : Clu) : Prop where
 ok : CluOk cl
 ids : ∀ e ∈ cl.has, e.id.k.size ≤ 1000000 ∧ e.id.s.size ≤ 1000000 ∧ e.id.n.size ≤ 1000000
 last : 0 ≤ cl.last ∧ cl.last ≤ 1000000000
 fuse : -1000 ≤ cl.fuse ∧ cl.fuse ≤ 1000
 fails : cl.fails = []
abbrev idA (i : OId) : List AV := [.str i.k, .str i.s, .str i.n]
theorem idA_inj {a b : OId} (h : idA a = idA b) : a = b := by
 cases a
 cases b
 simp at h
 simp [h]
theorem keys_ok {l : List CEnt} (h : ∀ e ∈ l, e.id.k.size ≤ 1000000 ∧ e.id.s.size ≤ 1000000 ∧ e.id.n.size ≤ 1000000) : KeysOk Tryd.prog 31 (rowsE l) := fun r hr => by
 obtain ⟨e, he, rfl⟩ := List.mem_map.1 hr
 obtain ⟨h1, h2, h3⟩ := h e he
 obtain ⟨l, hl⟩ := keyI_of h1 h2 h3
 exact ⟨_, l, keyV_id _ _ _, hl⟩
theorem rowsE_put (l : List CEnt) (e : CEnt) : putR (rowsE l) (idA e.id) (enV e.body e.ver) = rowsE (putE l e) := by
 unfold putR putE
 by_cases h : l.any (fun x => decide (x.id = e.id)) = true
 ·rw [if_pos h]
  obtain ⟨x, hx, hxe⟩ := List.any_eq_true.1 h
  rw [if_pos ⟨rowE x, List.mem_map.2 ⟨x, hx, rfl⟩, by rw [← of_decide_eq_true hxe]⟩]
  unfold rowsE
  rw [List.map_map, List.map_map]
  refine List.map_congr_left fun y _ => ?_
  simp only [Function.comp]
  by_cases hy : y.id = e.id
  ·rw [if_pos (by rw [← hy]), if_pos hy]
  ·rw [if_neg (fun k => hy (idA_inj k)), if_neg hy]
 ·rw [if_neg h, if_neg]
  ·unfold rowsE
   rw [List.map_append]
   rfl
  ·rintro ⟨r, hr, hk⟩
   obtain ⟨x, hx, rfl⟩ := List.mem_map.1 hr
   exact h (List.any_eq_true.2 ⟨x, hx, decide_eq_true (idA_inj hk)⟩)
theorem rowsE_find (cl : Clu) (i : OId) : Found (rowsE cl.has) (idA i) ((cl.find i).map fun e => enV e.body e.ver) := by
 cases h : cl.find i with
 | none =>
  intro r hr hk
  obtain ⟨e, he, rfl⟩ := List.mem_map.1 hr
  exact find_none.1 h e he (idA_inj hk)
 | some e =>
  unfold Clu.find at h
  have h1 := List.find?_some h
  have h2 := List.mem_of_find?_eq_some h
  refine List.mem_map.2 ⟨e, h2, ?_⟩
  rw [← of_decide_eq_true h1]
theorem enV_tup (v : V) (n : Int) : ∀ c ∈ enV v n, c.isTup = false := by
 intro c hc
 simp at hc
 rcases hc with rfl | rfl | rfl | rfl | rfl | rfl | rfl <;> rfl
theorem enV_val (v : V) (n : Int) : ∀ c ∈ enV v n, c.isVal = true := by
 intro c hc
 simp at hc
 rcases hc with rfl | rfl | rfl | rfl | rfl | rfl | rfl <;> rfl
theorem getN_g (cl : Clu) (hk : CluK cl) {i : OId} (hi : KeyI i.k i.s i.n) (h : cl.find i = none) : MOp Tryd.prog (.get 46 true) [(2900001, [mcA (rowsE cl.has)])] [.np 2900001 0, .agg (idA i)] [(2900001, [mcA (rowsE cl.has)])] (.tup [.agg zE, .bool false]) := by
 obtain ⟨l, hl⟩ := hi
 have hf := rowsE_find cl i
 rw [h] at hf
 exact mop_get (z := zE) (o := none) true rfl Tryd.underlying46 keyedID (keys_ok hk.ids) (keyV_id i.k i.s i.n) hl zero_e zero_relE hf (by
  intro c hc
  simp at hc
  rcases hc with rfl | rfl | rfl | rfl | rfl | rfl | rfl <;> rfl)
theorem getS_g (cl : Clu) (hk : CluK cl) {i : OId} (hi : KeyI i.k i.s i.n) {e : CEnt} (h : cl.find i = some e) : MOp Tryd.prog (.get 46 true) [(2900001, [mcA (rowsE cl.has)])] [.np 2900001 0, .agg (idA i)] [(2900001, [mcA (rowsE cl.has)])] (.tup [.agg (enV e.body e.ver), .bool true]) := by
 obtain ⟨l, hl⟩ := hi
 have hf := rowsE_find cl i
 rw [h] at hf
 exact mop_get (z := zE) (o := some (enV e.body e.ver)) true rfl Tryd.underlying46 keyedID (keys_ok hk.ids) (keyV_id i.k i.s i.n) hl zero_e zero_relE hf (enV_tup _ _)
theorem setE_g (cl : Clu) (hk : CluK cl) {i : OId} (hi : KeyI i.k i.s i.n) (v : V) (n : Int) : MOp Tryd.prog (.set 46) [(2900001, [mcA (rowsE cl.has)])] [.np 2900001 0, .agg (idA i), .agg (enV v n)] [(2900001, [mcA (rowsE (putE cl.has ⟨i, v, n⟩))])] (.bool true) := by
 obtain ⟨l, hl⟩ := hi
 rw [← rowsE_put]
 exact mop_set (vc := enV v n) rfl Tryd.underlying46 keyedID (keys_ok hk.ids) (keyV_id i.k i.s i.n) hl (enV_val v n)
theorem put_g (cl : Clu) (hk : CluK cl) {i : OId} (hi : KeyI i.k i.s i.n) (v : V) (hv : v.size ≤ 1000000) : MS Tryd.prog 19 (cluX 2000000 2900001 cl) [.np 2000000 0, .agg (idA i), (vA (v))] (cluX 2000000 2900001 (cl.put i v)) (.tup []) := by
 have hc : AC Tryd.prog 22 [(vA (v))] ((vA (v))) := clone_ok v (by omega)
 have hl := hk.last
 obtain ⟨has, last, fails, fuse, down⟩ := cl
 have e1 : last + 1 = IntKind.i64.wrap (last + 1) := (wrap_in (by dsimp only at hl; omega) (by dsimp only at hl; omega)).symm
 have hs := setE_g _ hk hi v (last + 1)
 unfold Clu.put
 dsimp only at hs ⊢
 rw [e1] at hs ⊢
 refine MS.enter Tryd.func19 a_cluster_Cluster_put_ok a_cluster_Cluster_put_cb (by rfl) (by rfl) fun E hE => ?_
 show AK _ _ _ [.c b_cluster_Cluster_put] _ _
 rw [b_cluster_Cluster_put]
 refine kW ?_
 refine kQ [.v ((vA (v))), .s [2900001] [(2900001, [mcA (rowsE (putE has ⟨i, v, IntKind.i64.wrap (last + 1)⟩))])] (.bool true)] ?_
 refine kW ?_
 show RQS _ _ _ .normal _ _
 exact ⟨⟨_, rfl, rfl⟩, ⟨_, rfl, rfl⟩, ⟨_, rfl, rfl⟩, trivial⟩
theorem write_g (cl : Clu) (hk : CluK cl) : MS Tryd.prog 17 (cluX 2000000 2900001 cl) [.np 2000000 0] (cluX 2000000 2900001 cl.write.2) (.int .i64 cl.write.1) := by
 have h := write_m (rowsE cl.has) cl.last cl.fuse cl.down hk.fuse
 have hf := hk.fails
 obtain ⟨has, last, fails, fuse, down⟩ := cl
 dsimp only at h hf
 subst hf
 unfold Clu.write
 unfold wrE wrF wrD at h
 by_cases hd : (down || decide (fuse = 0)) = true
 ·rw [if_pos hd] at h ⊢
  rw [if_pos hd, hd] at h
  exact h
 ·have hd' : (down || decide (fuse = 0)) = false := by simpa using hd
  have hdn : down = false := by cases down <;> simp_all
  subst hdn
  rw [if_neg hd] at h ⊢
  rw [if_neg hd, hd'] at h
  exact h
theorem CluK.write {cl : Clu} (h : CluK cl) : CluK cl.write.2 := by
 obtain ⟨⟨h1, h2, h3⟩, h4, h5, h6, h7⟩ := h
 unfold Clu.write
 split
 ·exact ⟨⟨h1, h2, h3⟩, h4, h5, h6, h7⟩
 ·refine ⟨⟨h1, h2, h3⟩, h4, h5, ?_, ?_⟩
  ·dsimp only
   split <;> omega
  ·show (cl.fails.filter _).map _ = []
   rw [h7]
   rfl
theorem putE_ids {l : List CEnt} {e : CEnt} {P : OId → Prop} (h : ∀ x ∈ l, P x.id) (he : P e.id) : ∀ x ∈ putE l e, P x.id := by
 unfold putE
 split
 ·intro x hx
  obtain ⟨y, hy, rfl⟩ := List.mem_map.1 hx
  split
  ·exact he
  ·exact h y hy
 ·intro x hx
  rcases List.mem_append.1 hx with hx | hx
  ·exact h x hx
  ·rw [List.mem_singleton.1 hx]; exact he
theorem putE_all {l : List CEnt} {e : CEnt} {P : CEnt → Prop} (h : ∀ x ∈ l, P x) (he : P e) : ∀ x ∈ putE l e, P x := by
 unfold putE
 split
 ·intro x hx
  obtain ⟨y, hy, rfl⟩ := List.mem_map.1 hx
  split
  ·exact he
  ·exact h y hy
 ·intro x hx
  rcases List.mem_append.1 hx with hx | hx
  ·exact h x hx
  ·rw [List.mem_singleton.1 hx]; exact he
theorem putE_nd {l : List CEnt} {e : CEnt} (h : (l.map fun e => e.id).Nodup) : ((putE l e).map fun e => e.id).Nodup := by
 unfold putE
 split
 ·rw [List.map_map]
  rw [show l.map ((fun e : CEnt => e.id) ∘ fun x => if x.id = e.id then e else x) = l.map fun e => e.id from List.map_congr_left fun x _ => by
   simp only [Function.comp]
   split
   ·rename_i hx; exact hx.symm
   ·rfl]
  exact h
 ·rename_i hn
  rw [List.map_append, List.nodup_append]
  refine ⟨h, by simp, fun a ha b hb e' => ?_⟩
  simp at hb
  subst hb
  obtain ⟨x, hx, rfl⟩ := List.mem_map.1 ha
  exact hn (List.any_eq_true.2 ⟨x, hx, decide_eq_true e'⟩)
theorem putE_len (l : List CEnt) (e : CEnt) : (putE l e).length ≤ l.length + 1 := by
 unfold putE
 split <;> simp
theorem CluK.put {cl : Clu} (h : CluK cl) {i : OId} {v : V} (hi : i.k.size ≤ 1000000 ∧ i.s.size ≤ 1000000 ∧ i.n.size ≤ 1000000) (hv : v.size ≤ 1000000) (hl : cl.has.length < 1000000) (hla : cl.last < 1000000000) : CluK (cl.put i v) := by
 obtain ⟨⟨h1, h2, h3⟩, h4, h5, h6, h7⟩ := h
 refine ⟨⟨putE_nd h1, putE_all (P := fun e => e.body.size ≤ 1000000) h2 hv, ?_⟩, putE_all (P := fun e : CEnt => e.id.k.size ≤ 1000000 ∧ e.id.s.size ≤ 1000000 ∧ e.id.n.size ≤ 1000000) h4 hi, ?_, h6, h7⟩
 ·have := putE_len cl.has ⟨i, v, cl.last + 1⟩
  show (putE cl.has ⟨i, v, cl.last + 1⟩).length ≤ _
  omega
 ·show 0 ≤ cl.last + 1 ∧ cl.last + 1 ≤ _
  omega
theorem fuse_g (cl : Clu) (n : Int) : MS Tryd.prog 12 (cluX 2000000 2900001 cl) [.np 2000000 0, .int .i64 n] (cluX 2000000 2900001 { cl with fuse := n }) (.tup []) := by
 obtain ⟨has, last, fails, fuse, down⟩ := cl
 refine MS.enter Tryd.func12 a_cluster_Cluster_Fuse_ok a_cluster_Cluster_Fuse_cb (by rfl) (by rfl) fun E hE => ?_
 show AK _ _ _ [.c b_cluster_Cluster_Fuse] _ _
 rw [b_cluster_Cluster_Fuse]
 refine kS ?_
 refine kP [] ?_ ?_
 ·((repeat' apply And.intro) <;> first | exact kD | (intro hgd; refine ⟨?_, kG⟩; (repeat' apply And.intro) <;> first | exact kD | skip) | skip)
  ·exact fun g o => someClu true g o
 refine kCt ?_
 refine kQ [] ?_
 show RQS _ _ _ .normal _ _
 exact ⟨⟨_, rfl, rfl⟩, ⟨_, rfl, rfl⟩, ⟨_, rfl, rfl⟩, trivial⟩
theorem restart_g (cl : Clu) (hf : cl.fails = []) : MS Tryd.prog 14 (cluX 2000000 2900001 cl) [.np 2000000 0] (cluX 2000000 2900001 { cl with down := false, fuse := -1 }) (.tup []) := by
 obtain ⟨has, last, fails, fuse, down⟩ := cl
 refine MS.enter Tryd.func14 a_cluster_Cluster_Restart_ok a_cluster_Cluster_Restart_cb (by rfl) (by rfl) fun E hE => ?_
 show AK _ _ _ [.c b_cluster_Cluster_Restart] _ _
 rw [b_cluster_Cluster_Restart]
 refine kS ?_
 refine kP [] ?_ ?_
 ·((repeat' apply And.intro) <;> first | exact kD | (intro hgd; refine ⟨?_, kG⟩; (repeat' apply And.intro) <;> first | exact kD | skip) | skip)
  ·exact fun g o => someClu true g o
 refine kCt ?_
 refine AK.regW [] (f0 := frOf []) (s0 := ⟨boxOf [(2000000, [.np 2900001 0, .int .i64 last, .lst .any 1 [], .int .i64 (-1), .bool false, npC], false), (2900001, [mcA (rowsE has)], false)], fun _ => 0⟩) ?_ ?_ ?_
 ·(repeat' apply And.intro) <;> exact kD
 ·exact Weak.introN (L := []) trivial ⟨⟨_, rfl, .refl _, .refl _, .any .nil 1 [], .refl _, .refl _, .refl _, trivial⟩, kJ, trivial⟩ rfl rfl ⟨rfl, rfl, trivial⟩
 show RQS _ _ _ .normal _ _
 exact ⟨⟨_, rfl, rfl⟩, ⟨_, rfl, rfl⟩, ⟨_, rfl, rfl⟩, trivial⟩
theorem down_g (cl : Clu) : MS Tryd.prog 11 (cluX 2000000 2900001 cl) [.np 2000000 0] (cluX 2000000 2900001 cl) (.bool cl.down) := by
 obtain ⟨has, last, fails, fuse, down⟩ := cl
 refine MS.enter Tryd.func11 a_cluster_Cluster_Down_ok a_cluster_Cluster_Down_cb (by rfl) (by rfl) fun E hE => ?_
 show AK _ _ _ [.c b_cluster_Cluster_Down] _ _
 rw [b_cluster_Cluster_Down]
 refine kW ?_
 refine kP [] ?_ ?_
 ·((repeat' apply And.intro) <;> first | exact kD | (intro hgd; refine ⟨?_, kG⟩; (repeat' apply And.intro) <;> first | exact kD | skip) | skip)
  ·exact fun g o => someClu true g o
 refine kW ?_
 exact AK.ret ⟨⟨_, rfl, rfl⟩, ⟨_, rfl, rfl⟩, ⟨_, rfl, rfl⟩, trivial⟩
end Go.Proofs.YtdncaodccgfniaaDoor
namespace Go.Proofs.YtdncaodccgfniaaDoor
open Go.RowKit
theorem arun_split {P : Program} : ∀ {l1 l2 : List GI} {rs rs1 rs2 : List RS} {fr fr1 fr2 : Fr} {st st1 st2 : St} {p1 p2 : Prop}, arun P l1 rs fr st = some (rs1, fr1, st1, p1) → arun P l2 rs1 fr1 st1 = some (rs2, fr2, st2, p2) → ∃ p, arun P (l1 ++ l2) rs fr st = some (rs2, fr2, st2, p) ∧ (p1 → p2 → p)
 | [], l2, rs, rs1, rs2, fr, fr1, fr2, st, st1, st2, p1, p2, h1, h2 => by
  cases h1
  exact ⟨p2, h2, fun _ h => h⟩
 | x :: l, l2, rs, rs1, rs2, fr, fr1, fr2, st, st1, st2, p1, p2, h1, h2 => by
  rw [List.cons_append]
  unfold arun at h1 ⊢
  cases hw : x.i.wantsRS with
  | true =>
   rw [hw] at h1
   simp only at h1 ⊢
   cases rs with
   | nil => cases h1
   | cons r rs =>
    simp only at h1 ⊢
    split at h1
    ·rename_i f s q hg
     split at h1
     ·rename_i rs' f' s' q' ha
      injection h1 with h1
      injection h1 with e1 h1
      injection h1 with e2 h1
      injection h1 with e3 e4
      subst e1 e2 e3 e4
      obtain ⟨p, hp, hi⟩ := arun_split ha h2
      rw [hp]
      exact ⟨q ∧ p, rfl, fun h h' => ⟨h.1, hi h.2 h'⟩⟩
     ·cases h1
    ·cases h1
  | false =>
   rw [hw] at h1
   simp only at h1 ⊢
   split at h1
   ·rename_i f s q hq hg
    obtain ⟨p, hp, hi⟩ := arun_split h1 h2
    exact ⟨p, hp, hi⟩
   ·rename_i f s q hq hg
    split at h1
    ·rename_i rs' f' s' q' ha
     injection h1 with h1
     injection h1 with e1 h1
     injection h1 with e2 h1
     injection h1 with e3 e4
     subst e1 e2 e3 e4
     obtain ⟨p, hp, hi⟩ := arun_split ha h2
     rw [hp]
     exact ⟨q ∧ p, rfl, fun h h' => ⟨h.1, hi h.2 h'⟩⟩
    ·cases h1
   ·cases h1
theorem upd_told {fr : Fr} {s : Nat} {v : AV} (h : fr s = some v) : upd fr s (some v) = fr := by
 funext i
 unfold upd
 cases hi : Nat.beq i s with
 | true => rw [Nat.eq_of_beq_eq_true hi]; exact h.symm
 | false => rfl
theorem AK.regC {P : Program} {E : Env} {Q : Exit → Fr → St → Prop} {k : List AItem} {fr fr1 fr2 : Fr} {st st1 st2 : St} {l : List GI} (j s : Nat) (v : AV) (rs : List RS) {rs1 rs2 : List RS} {p1 p2 : Prop} {v1 : AV} (hp1 : p1) (hv : v1 = v) (hp2 : p2) (h : AK P E Q k fr2 st2) (h1 : arun P (l.take j) rs fr st = some (rs1, fr1, st1, p1) := by rfl) (hs : fr1 s = some v1 := by rfl) (h2 : arun P (l.drop j) rs1 (upd fr1 s (some v)) st1 = some (rs2, fr2, st2, p2) := by rfl) (hm : P.follows .mixedOrders = true := by exact fw0) : AK P E Q (.c (.reg l) :: k) fr st := by
 subst hv
 rw [upd_told hs] at h2
 obtain ⟨p, hp, hi⟩ := arun_split h1 h2
 rw [List.take_append_drop] at hp
 exact AK.reg hm hp (hi hp1 hp2) h
abbrev emB : V := .mk 5 false 0 ⟨#[]⟩ [] []
abbrev idZ : OId := ⟨⟨#[65]⟩, ⟨#[98]⟩, ⟨#[122, 122]⟩⟩
theorem fused_ans (f k : Nat) : ((fused idI emB f k).create 0 (idI k) emB).1 = if k < f then 0 else 31 := by
 have hne := fun i j h => idI_ne i j h
 obtain ⟨h1, h2, h3, h4⟩ := fused_at (v := emB) (f := f) hne k
 have hn : (fused idI emB f k).find (idI k) = none := creates_new (fun e he => by simp [Clu.new] at he) fun i hi => hne i k hi
 rw [create_new emB hn]
 generalize fused idI emB f k = c at *
 by_cases hk : k < f
 ·obtain ⟨d1, d2⟩ := h3 (by omega)
  have hw : c.write.1 = 0 := by
   unfold Clu.write
   rw [d1, d2, h1, if_neg (by simp; omega)]
   simp
  rw [hw, if_pos hk]
  simp
 ·have hw : c.write.1 = 31 := by
   unfold Clu.write
   by_cases hf : k = f
   ·obtain ⟨d1, d2⟩ := h3 (by omega)
    rw [if_pos (by rw [d2]; simp; omega)]
   ·obtain ⟨d1, _⟩ := h4 (by omega)
    rw [if_pos (by rw [d1]; rfl)]
  rw [if_neg hk, hw]
  simp [hw]
theorem create_K {c : Clu} (h : CluK c) (hl : c.has.length < 1000000) (ha : c.last < 1000000000) (i : OId) (hi : i.k.size ≤ 1000000 ∧ i.s.size ≤ 1000000 ∧ i.n.size ≤ 1000000) : CluK (c.create 0 i emB).2 ∧ (c.create 0 i emB).2.has.length ≤ c.has.length + 1 ∧ (c.create 0 i emB).2.last ≤ c.last + 1 := by
 unfold Clu.create
 rw [if_neg (by simp)]
 split
 ·exact ⟨h.write, by rw [(write_has c).1]; omega, by rw [(write_has c).2]; omega⟩
 ·split
  ·exact ⟨h.write, by simp only; rw [(write_has c).1]; omega, by simp only; rw [(write_has c).2]; omega⟩
  ·refine ⟨h.write.put hi (by decide +kernel) (by rw [(write_has c).1]; omega) (by rw [(write_has c).2]; omega), ?_, ?_⟩
   ·show (putE c.write.2.has _).length ≤ _
    have := putE_len c.write.2.has ⟨i, emB, c.write.2.last + 1⟩
    rw [(write_has c).1] at this
    rw [(write_has c).1]
    omega
   ·show c.write.2.last + 1 ≤ _
    rw [(write_has c).2]
    omega
theorem idI_size {k : Nat} (h : k < 60) : (idI k).k.size ≤ 1000000 ∧ (idI k).s.size ≤ 1000000 ∧ (idI k).n.size ≤ 1000000 := by
 unfold idI
 rw [if_pos h]
 exact ⟨by show (1 : Nat) ≤ _; omega, by show (1 : Nat) ≤ _; omega, by show (3 : Nat) ≤ _; omega⟩
theorem fused_K {f : Nat} (hf : f ≤ 100) : ∀ k, k ≤ 60 → CluK (fused idI emB f k) ∧ (fused idI emB f k).has.length ≤ k ∧ (fused idI emB f k).last ≤ k
 | 0, _ => ⟨⟨⟨.nil, (fun e he => by cases he), (by show (0 : Nat) ≤ _; omega)⟩, (fun e he => by cases he), (by show (0 : Int) ≤ 0 ∧ (0 : Int) ≤ _; omega), (by show (-1000 : Int) ≤ (f : Int) ∧ (f : Int) ≤ 1000; omega), rfl⟩, Nat.le_refl _, (by show (0 : Int) ≤ 0; omega)⟩
 | k + 1, hk => by
  obtain ⟨h1, h2, h3⟩ := fused_K hf k (by omega)
  obtain ⟨k1, k2, k3⟩ := create_K h1 (by omega) (by omega) (idI k) (idI_size (by omega))
  exact ⟨k1, by have : (fused idI emB f (k + 1)).has.length ≤ _ := k2; omega, by have : (fused idI emB f (k + 1)).last ≤ _ := k3; omega⟩
theorem idZ_ne {k : Nat} (h : k < 60) : idI k ≠ idZ := by
 unfold idI
 rw [if_pos h]
 intro e
 injection e with _ _ e
 have : (nmI k).size = (⟨#[122, 122]⟩ : ByteArray).size := by rw [e]
 have h3 : (nmI k).size = 3 := rfl
 have h2 : (⟨#[122, 122]⟩ : ByteArray).size = 2 := rfl
 omega
theorem create_ids {c : Clu} {i : OId} {v : V} (P : OId → Prop) (h : ∀ e ∈ c.has, P e.id) (hi : P i) : ∀ e ∈ (c.create 0 i v).2.has, P e.id := by
 have hw : ∀ e ∈ c.write.2.has, P e.id := by rw [(write_has c).1]; exact h
 unfold Clu.create
 rw [if_neg (by simp)]
 split
 ·exact hw
 ·split
  ·exact hw
  ·exact putE_ids hw hi
theorem fused_noZ {f : Nat} : ∀ k, k ≤ 60 → ∀ e ∈ (fused idI emB f k).has, e.id ≠ idZ
 | 0, _ => fun e he => by cases he
 | k + 1, hk => create_ids (fun x => x ≠ idZ) (fused_noZ k (by omega)) (idZ_ne (by omega))
end Go.Proofs.YtdncaodccgfniaaDoor
