/-
  The texts that the claim wants, one behind the other: part 31.
-/
import Derived.Test.YtgidajjjpeboeaaGreatDoorS30
set_option linter.unusedSimpArgs false
set_option linter.unusedVariables false
namespace Go.Proofs.YtgidajjjpeboeaaGreatDoor
open Go.RowKit Go.Sort Go.Lib Go.Shelf
abbrev obId (o : Ob) : Id3 := (o.k, o.s, o.n)
def sortO (l : List Ob) : List Ob := l.mergeSort fun a b => decide (cmpId (obId a) (obId b) ≤ 0)
theorem sortO_perm (l : List Ob) : (sortO l).Perm l := List.mergeSort_perm _ _
theorem sortO_sorted {l : List Ob} (hnd : (l.map obId).Nodup) : (sortO l).Pairwise fun x y => cmpId (obId x) (obId y) < 0 := by
 have hs := List.pairwise_mergeSort (le := fun a b : Ob => decide (cmpId (obId a) (obId b) ≤ 0)) (fun x y z h k => by
  have h := of_decide_eq_true h
  have k := of_decide_eq_true k
  refine decide_eq_true ?_
  by_cases e1 : cmpId (obId x) (obId y) = 0
  ·rw [(cmpI_ok.eq _ _).1 e1]; exact k
  ·by_cases e2 : cmpId (obId y) (obId z) = 0
   ·rw [← (cmpI_ok.eq _ _).1 e2]; exact h
   ·have := cmpI_ok.trans (obId x) (obId y) (obId z) (by omega) (by omega)
    omega) (fun x y => by
  rw [Bool.or_eq_true, decide_eq_true_eq, decide_eq_true_eq]
  have := cmpI_ok.anti (obId x) (obId y)
  omega) l
 have hp : ((sortO l).map obId).Nodup := ((sortO_perm l).map obId).nodup_iff.2 hnd
 have hp : (sortO l).Pairwise fun x y => obId x ≠ obId y := List.pairwise_map.1 hp
 refine (hs.and hp).imp fun {a b} h => ?_
 have h1 := of_decide_eq_true h.1
 have h2 : cmpId (obId a) (obId b) ≠ 0 := fun e => h.2 ((cmpI_ok.eq _ _).1 e)
 omega
theorem sortO_one {l l' : List Ob} (hnd : (l.map obId).Nodup) (hp : l.Perm l') : sortO l = sortO l' := by
 have hnd' : (l'.map obId).Nodup := (hp.map obId).nodup_iff.1 hnd
 exact sorted_one cmpI_ok obId ((sortO_perm l).trans (hp.trans (sortO_perm l').symm)) (sortO_sorted hnd) (sortO_sorted hnd')
theorem grow2 (w : World) (A B : Obj) (q : Nat) (os : Array Obj) : grow (((w.alloc A).alloc B).drewN q) os = grow (w.drewN q) (#[A, B] ++ os) := by
 have h : ((w.heap.push A).push B) ++ os = w.heap ++ (#[A, B] ++ os) := by
  apply Array.ext'
  simp
 unfold grow World.drewN World.alloc
 simp only
 rw [← h]
set_option maxRecDepth 100000 in
theorem objects1_any (k s n k' s' n' : ByteArray) (a b c d e f a' b' c' d' e' f' : Value) (w : World) (hg : GW w) :
  Calls Tryz.prog 40 #[.agg #[.string k, .string s, .string n, a, b, c, d, e, f], .agg #[.string k', .string s', .string n', a', b', c', d', e', f']] w fun e w' => e = .returned (.int .i64 (cmpO k s n k' s' n')) ∧ ∃ q os, w' = grow (w.drewN q) os := by
 obtain ⟨R, hR⟩ : ∃ R, cmpO k s n k' s' n' = R := ⟨_, rfl⟩
 have hc := Lib.hid fun w hg => compare_any k s n k' s' n' w hg
 rw [hR] at hc ⊢
 have hg1 : GW ((w.alloc (.cells #[.string k, .string s, .string n, a, b, c, d, e, f] 46)).alloc (.cells #[.string k', .string s', .string n', a', b', c', d', e', f'] 46)) := hg.below (((Below.refl _ _).alloc (Nat.le_refl _) _).alloc (by simp) _)
 have HG := Lib.hid hg1
 clear hR hg hg1
 go_enter Tryz.func40, Tryz.ntmps40
 go_wp2_with (go_at_call 41; refine (hc.out _ HG.out).mono ?_; rintro e1 w1 ⟨rfl, q, os, rfl⟩)
 go_ret
 exact ⟨rfl, q, _, grow2 w _ _ q os⟩
theorem obC_len (o : Ob) : (obC o).length = 9 := rfl
theorem obC_clean (o : Ob) : ∀ c ∈ obC o, c.clean = true := by
 intro c hc
 simp at hc
 rcases hc with rfl | rfl | rfl | rfl | rfl | rfl | rfl | rfl | rfl <;> rfl
theorem cells9 {σ : Sg} {cs : List Value} {o : Ob} (h : RelL σ cs (obC o)) : ∃ a b c d e f, cs.toArray = #[.string o.k, .string o.s, .string o.n, a, b, c, d, e, f] := by
 have hl := h.1
 rcases cs with _ | ⟨x1, _ | ⟨x2, _ | ⟨x3, _ | ⟨x4, _ | ⟨x5, _ | ⟨x6, _ | ⟨x7, _ | ⟨x8, _ | ⟨x9, _ | ⟨_, _⟩⟩⟩⟩⟩⟩⟩⟩⟩⟩ <;> simp at hl
 have h1 : Rel1 σ x1 (.str o.k) := h.2 0 _ _ rfl rfl
 have h2 : Rel1 σ x2 (.str o.s) := h.2 1 _ _ rfl rfl
 have h3 : Rel1 σ x3 (.str o.n) := h.2 2 _ _ rfl rfl
 cases h1
 cases h2
 cases h3
 exact ⟨x4, x5, x6, x7, x8, x9, rfl⟩
theorem sortO_ms (l : List Ob) (hnd : (l.map obId).Nodup) (hlen : l.length ≤ 1000000) (cap m : Nat) (hcap : l.length ≤ cap) (hz : ((rowsO l).flatten ++ List.replicate m AV.top).length = cap * 9) :
  MS Tryz.prog 39 [(2000000, (rowsO l).flatten ++ List.replicate m AV.top)] [.sli 2000000 9 l.length cap, .fn 40 []] [(2000000, (rowsO (sortO l)).flatten ++ List.replicate m AV.top)] (.tup []) :=
 sort_ms Tryz.sortO (by kernel_rfl) Tryz.isAgg46 Tryz.sizeOf46 (fun o => obC o) obC_len obC_clean cmpI_ok obId hnd (by omega) (sortO_perm l) (sortO_sorted hnd) _ (enters_of Tryz.func40 (by kernel_rfl) rfl) (fun σ cs ds x y _ _ h1 h2 W hW => by
  obtain ⟨a, b, c, d, e, f, e1⟩ := cells9 h1
  obtain ⟨a', b', c', d', e', f', e2⟩ := cells9 h2
  rw [e1, e2]
  exact objects1_any _ _ _ _ _ _ _ _ _ _ _ _ _ _ _ _ _ _ W hW) cap m hcap hz
theorem sortNil_a (f : AV) (hf : f.arg = some f) : AC Tryz.prog 39 [.lst .any 9 [], f] (.tup []) := by
 refine ⟨by kernel_rfl, fun σ w vs hh hr hg => ?_⟩
 obtain ⟨v1, v2, rfl⟩ : ∃ a b, vs = [a, b] := by
  have := hr.1
  rcases vs with _ | ⟨a, _ | ⟨b, _ | ⟨_, _⟩⟩⟩ <;> simp at this
  exact ⟨a, b, rfl⟩
 have h1 : Rel1 σ v1 (.lst .any 9 []) := hr.2 0 v1 _ rfl rfl
 cases h1 with
 | lst t esz l A n cap b o f hn hlen hA hsz hσ hr ht =>
  subst hn
  refine (AnyF.slices_SortFunc_none Tryz.sortO A cap v2 w).mono ?_
  rintro e w' ⟨rfl, rfl⟩
  exact ⟨σ, .tuple #[], rfl, .refl _ _, hh, .refl _ _, [], rfl, rfl, fun j u x hu => by simp at hu⟩
abbrev enV (v : V) (n : Int) : List AV := [.int .i64 v.kind, .bool v.b, .int .i64 v.n, .str v.s, .lst .any 6 (rowsV v.l), .lst .any 7 (rowsM v.m), .int .i64 n]
abbrev rowE (e : CEnt) : MRow := ([.str e.id.k, .str e.id.s, .str e.id.n], enV e.body e.ver)
def rowsE (l : List CEnt) : List MRow := l.map fun e => rowE e
def obE (e : CEnt) : Ob := ⟨e.id.k, e.id.s, e.id.n, e.body⟩
def Clu.objects (cl : Clu) : List Ob := sortO (cl.has.map obE)
structure CluOk (cl : Clu) : Prop where
 nd : (cl.has.map fun e => e.id).Nodup
 size : ∀ e ∈ cl.has, e.body.size ≤ 1000000
 len : cl.has.length ≤ 1000000
theorem obE_nd {l : List CEnt} (h : (l.map fun e => e.id).Nodup) : ((l.map obE).map obId).Nodup := by
 rw [List.map_map]
 have e : l.map (obId ∘ obE) = (l.map fun e => e.id).map fun i => (i.k, i.s, i.n) := by rw [List.map_map]; rfl
 rw [e]
 rw [List.nodup_iff_pairwise_ne] at h ⊢
 exact List.pairwise_map.2 (h.imp fun {a b} hne e => hne (by cases a; cases b; simp at e; simp [e]))
theorem rowsE_split {l : List CEnt} {la lb : List MRow} {row : MRow} (h : rowsE l = la ++ row :: lb) : ∃ a e b, l = a ++ e :: b ∧ la = rowsE a ∧ row = rowE e ∧ lb = rowsE b := by
 unfold rowsE at h
 obtain ⟨a, b, rfl, h1, h2⟩ := List.map_eq_append_iff.1 h
 obtain ⟨e, b', rfl, h3, h4⟩ := List.map_eq_cons_iff.1 h2
 exact ⟨a, e, b', rfl, h1.symm, h3.symm, h4.symm⟩
theorem rowsO_ok (l : List Ob) : RowsOk 9 (rowsO l) := ⟨by omega, fun c hc => by
 obtain ⟨o, _, rfl⟩ := List.mem_map.1 hc
 exact ⟨rfl, rfl⟩⟩
theorem rowsO_flen (l : List Ob) : (rowsO l).flatten.length = l.length * 9 := by rw [(rowsO_ok l).flat.1, rowsO_len]
def obJ (r : Nat) (i : List CEnt × List CEnt × Nat × Nat) : Fr × St := match i.2.1 with
 | [] => (frOf [(3, .lst .nil 9 []), (12, itA r)], ⟨boxOf [], fun _ => 0⟩)
 | e :: l => (frOf [(3, .sli 1000001 9 (l.length + 1) i.2.2.1), (12, itA r)], ⟨boxOf [(1000001, (rowsO ((e :: l).map obE)).flatten ++ List.replicate i.2.2.2 AV.top, false)], fun _ => 0⟩)
def obI (has : List CEnt) (i : List CEnt × List CEnt × Nat × Nat) : Prop := (i.1 ++ i.2.1).Perm has ∧ i.2.1.length ≤ i.2.2.1 + (match i.2.1 with | [] => 1 | _ => 0) ∧ (i.2.1 ≠ [] → ((rowsO (i.2.1.map obE)).flatten ++ List.replicate i.2.2.2 AV.top).length = i.2.2.1 * 9)
def rhoO (i : Nat) : Nat := if i = 2000000 then 1000001 else if i = 1000001 then 2000000 else i
theorem rhoO_inj (i j : Nat) (h : rhoO i = rhoO j) : i = j := by
 unfold rhoO at h
 repeat' split at h
 all_goals omega
theorem rhoO_mp (i : Nat) : isMp (rhoO i) = isMp i := by
 unfold rhoO
 repeat' split
 all_goals first | (subst_vars; rfl) | rfl
end Go.Proofs.YtgidajjjpeboeaaGreatDoor
namespace Go.Proofs.YtgidajjjpeboeaaGreatDoor
open Go.RowKit Go.Maps Go.MapKept Go.ChangeMaps
theorem keyI_of {a b c : ByteArray} (ha : a.size ≤ 140737488355328) (hb : b.size ≤ 140737488355328) (hc : c.size ≤ 140737488355328) : KeyI a b c := by
 have h9 : Tryz.prog.underlying 9 = some .string := Tryz.underlying9
 have hs : ∀ (d : Nat) (x : ByteArray), x.size ≤ 140737488355328 → Tryz.prog.keyLits (d + 1) 9 [.string x] = some [.string x.data.toList] := fun d x hx => by
  have : x.size ≤ maxLen := by unfold maxLen; omega
  simp [Program.keyLits, h9, this]
 have c9 : Tryz.prog.cellsOf 9 = 1 := by kernel_rfl
 have hk : ∀ n, Tryz.prog.keyLits (n + 2) 24 [.string a, .string b, .string c] = some [.string a.data.toList, .string b.data.toList, .string c.data.toList] := fun n => by
  have e1 := hs n a ha
  have e2 := hs n b hb
  have e3 := hs n c hc
  have ez : Tryz.prog.cellsOf 24 = 3 := by kernel_rfl
  unfold Program.keyLits
  simp [Tryz.underlying24, c9, e1, e2, e3, ez]
 obtain ⟨n, hn⟩ : ∃ n, Tryz.prog.types.size + 1 = n + 2 := ⟨Tryz.prog.types.size - 1, by
  have : 1 ≤ Tryz.prog.types.size := of_decide_eq_true (by kernel_rfl)
  omega⟩
 unfold KeyI keyOf
 rw [Tryz.underlying24]
 simp only
 rw [if_pos (by kernel_rfl), hn]
 rw [show (Value.agg #[.string a, .string b, .string c]).cells.toList = [.string a, .string b, .string c] from rfl, hk]
 exact ⟨_, rfl⟩
structure CluK (cl : Clu) : Prop where
 ok : CluOk cl
 ids : ∀ e ∈ cl.has, e.id.k.size ≤ 140737488355328 ∧ e.id.s.size ≤ 140737488355328 ∧ e.id.n.size ≤ 140737488355328
 last : 0 ≤ cl.last ∧ cl.last ≤ 1000000000
 fuse : -1000 ≤ cl.fuse ∧ cl.fuse ≤ 1000
 fails : (∀ n ∈ cl.fails, -1000000 ≤ n ∧ n ≤ 1000000) ∧ cl.fails.length ≤ 1000000
abbrev idA (i : OId) : List AV := [.str i.k, .str i.s, .str i.n]
theorem idA_inj {a b : OId} (h : idA a = idA b) : a = b := by
 cases a
 cases b
 simp at h
 simp [h]
theorem keys_ok {l : List CEnt} (h : ∀ e ∈ l, e.id.k.size ≤ 140737488355328 ∧ e.id.s.size ≤ 140737488355328 ∧ e.id.n.size ≤ 140737488355328) : KeysOk Tryz.prog 24 (rowsE l) := fun r hr => by
 obtain ⟨e, he, rfl⟩ := List.mem_map.1 hr
 obtain ⟨h1, h2, h3⟩ := h e he
 obtain ⟨l, hl⟩ := keyI_of h1 h2 h3
 exact ⟨_, l, keyV_id _ _ _, hl⟩
theorem rowsE_put (l : List CEnt) (e : CEnt) : putR (rowsE l) (idA e.id) (enV e.body e.ver) = rowsE (putE l e) := by
 unfold putR putE
 by_cases h : l.any (fun x => decide (x.id = e.id)) = true
 ·rw [if_pos h]
  obtain ⟨x, hx, hxe⟩ := List.any_eq_true.1 h
  rw [if_pos ⟨rowE x, List.mem_map.2 ⟨x, hx, rfl⟩, by rw [← of_decide_eq_true hxe]⟩]
  unfold rowsE
  rw [List.map_map, List.map_map]
  refine List.map_congr_left fun y _ => ?_
  simp only [Function.comp]
  by_cases hy : y.id = e.id
  ·rw [if_pos (by rw [← hy]), if_pos hy]
  ·rw [if_neg (fun k => hy (idA_inj k)), if_neg hy]
 ·rw [if_neg h, if_neg]
  ·unfold rowsE
   rw [List.map_append]
   rfl
  ·rintro ⟨r, hr, hk⟩
   obtain ⟨x, hx, rfl⟩ := List.mem_map.1 hr
   exact h (List.any_eq_true.2 ⟨x, hx, decide_eq_true (idA_inj hk)⟩)
open Classical in
theorem rowsE_del (l : List CEnt) (i : OId) : delR (rowsE l) (idA i) = rowsE (l.filter fun e => decide (e.id ≠ i)) := by
 unfold delR rowsE
 rw [List.filter_map]
 congr 1
 refine List.filter_congr fun e _ => ?_
 simp only [Function.comp]
 rw [Bool.eq_iff_iff, decide_eq_true_iff, decide_eq_true_iff]
 exact ⟨fun h k => h (by rw [← k]), fun h k => h (idA_inj k)⟩
theorem rowsE_find (cl : Clu) (i : OId) : Found (rowsE cl.has) (idA i) ((cl.find i).map fun e => enV e.body e.ver) := by
 cases h : cl.find i with
 | none =>
  intro r hr hk
  obtain ⟨e, he, rfl⟩ := List.mem_map.1 hr
  exact find_none.1 h e he (idA_inj hk)
 | some e =>
  unfold Clu.find at h
  have h1 := List.find?_some h
  have h2 := List.mem_of_find?_eq_some h
  refine List.mem_map.2 ⟨e, h2, ?_⟩
  rw [← of_decide_eq_true h1]
theorem enV_tup (v : V) (n : Int) : ∀ c ∈ enV v n, c.isTup = false := by
 intro c hc
 simp at hc
 rcases hc with rfl | rfl | rfl | rfl | rfl | rfl | rfl <;> rfl
theorem enV_val (v : V) (n : Int) : ∀ c ∈ enV v n, c.isVal = true := by
 intro c hc
 simp at hc
 rcases hc with rfl | rfl | rfl | rfl | rfl | rfl | rfl <;> rfl
theorem getN_g (cl : Clu) (hk : CluK cl) {i : OId} (hi : KeyI i.k i.s i.n) (h : cl.find i = none) : MOp Tryz.prog (.get 68 true) [(2900001, [mcA (rowsE cl.has)])] [.np 2900001 0, .agg (idA i)] [(2900001, [mcA (rowsE cl.has)])] (.tup [.agg zE, .bool false]) := by
 obtain ⟨l, hl⟩ := hi
 have hf := rowsE_find cl i
 rw [h] at hf
 exact mop_get (z := zE) (o := none) true rfl Tryz.underlying68 keyedID (keys_ok hk.ids) (keyV_id i.k i.s i.n) hl zero_e zero_relE hf (by
  intro c hc
  simp at hc
  rcases hc with rfl | rfl | rfl | rfl | rfl | rfl | rfl <;> rfl)
theorem getS_g (cl : Clu) (hk : CluK cl) {i : OId} (hi : KeyI i.k i.s i.n) {e : CEnt} (h : cl.find i = some e) : MOp Tryz.prog (.get 68 true) [(2900001, [mcA (rowsE cl.has)])] [.np 2900001 0, .agg (idA i)] [(2900001, [mcA (rowsE cl.has)])] (.tup [.agg (enV e.body e.ver), .bool true]) := by
 obtain ⟨l, hl⟩ := hi
 have hf := rowsE_find cl i
 rw [h] at hf
 exact mop_get (z := zE) (o := some (enV e.body e.ver)) true rfl Tryz.underlying68 keyedID (keys_ok hk.ids) (keyV_id i.k i.s i.n) hl zero_e zero_relE hf (enV_tup _ _)
theorem setE_g (cl : Clu) (hk : CluK cl) {i : OId} (hi : KeyI i.k i.s i.n) (v : V) (n : Int) : MOp Tryz.prog (.set 68) [(2900001, [mcA (rowsE cl.has)])] [.np 2900001 0, .agg (idA i), .agg (enV v n)] [(2900001, [mcA (rowsE (putE cl.has ⟨i, v, n⟩))])] (.bool true) := by
 obtain ⟨l, hl⟩ := hi
 rw [← rowsE_put]
 exact mop_set (vc := enV v n) rfl Tryz.underlying68 keyedID (keys_ok hk.ids) (keyV_id i.k i.s i.n) hl (enV_val v n)
theorem putE_all {l : List CEnt} {e : CEnt} {P : CEnt → Prop} (h : ∀ x ∈ l, P x) (he : P e) : ∀ x ∈ putE l e, P x := by
 unfold putE
 split
 ·intro x hx
  obtain ⟨y, hy, rfl⟩ := List.mem_map.1 hx
  split
  ·exact he
  ·exact h y hy
 ·intro x hx
  rcases List.mem_append.1 hx with hx | hx
  ·exact h x hx
  ·rw [List.mem_singleton.1 hx]; exact he
theorem putE_nd {l : List CEnt} {e : CEnt} (h : (l.map fun e => e.id).Nodup) : ((putE l e).map fun e => e.id).Nodup := by
 unfold putE
 split
 ·rw [List.map_map]
  rw [show l.map ((fun e : CEnt => e.id) ∘ fun x => if x.id = e.id then e else x) = l.map fun e => e.id from List.map_congr_left fun x _ => by
   simp only [Function.comp]
   split
   ·rename_i hx; exact hx.symm
   ·rfl]
  exact h
 ·rename_i hn
  rw [List.map_append, List.nodup_append]
  refine ⟨h, by simp, fun a ha b hb e' => ?_⟩
  simp at hb
  subst hb
  obtain ⟨x, hx, rfl⟩ := List.mem_map.1 ha
  exact hn (List.any_eq_true.2 ⟨x, hx, decide_eq_true e'⟩)
theorem putE_len (l : List CEnt) (e : CEnt) : (putE l e).length ≤ l.length + 1 := by
 unfold putE
 split <;> simp
theorem CluK.put {cl : Clu} (h : CluK cl) {i : OId} {v : V} (hi : i.k.size ≤ 140737488355328 ∧ i.s.size ≤ 140737488355328 ∧ i.n.size ≤ 140737488355328) (hv : v.size ≤ 1000000) (hl : cl.has.length < 1000000) (hla : cl.last < 1000000000) : CluK (cl.put i v) := by
 obtain ⟨⟨h1, h2, h3⟩, h4, h5, h6, h7⟩ := h
 refine ⟨⟨putE_nd h1, putE_all (P := fun e => e.body.size ≤ 1000000) h2 hv, ?_⟩, putE_all (P := fun e : CEnt => e.id.k.size ≤ 140737488355328 ∧ e.id.s.size ≤ 140737488355328 ∧ e.id.n.size ≤ 140737488355328) h4 hi, ?_, h6, h7⟩
 ·have := putE_len cl.has ⟨i, v, cl.last + 1⟩
  show (putE cl.has ⟨i, v, cl.last + 1⟩).length ≤ _
  omega
 ·show 0 ≤ cl.last + 1 ∧ cl.last + 1 ≤ _
  omega
theorem CluK.filter {cl : Clu} (h : CluK cl) (p : CEnt → Bool) : CluK { cl with has := cl.has.filter p } := by
 obtain ⟨⟨h1, h2, h3⟩, h4, h5, h6, h7⟩ := h
 exact ⟨⟨h1.sublist (List.filter_sublist.map _), fun e he => h2 e (List.mem_filter.1 he).1, Nat.le_trans (List.length_filter_le _ _) h3⟩, fun e he => h4 e (List.mem_filter.1 he).1, h5, h6, h7⟩
end Go.Proofs.YtgidajjjpeboeaaGreatDoor
namespace Go.Proofs.YtgidajjjpeboeaaGreatDoor
open Go.RowKit
abbrev cluF (c m : Nat) (cl : Clu) (F : AV) : List (Nat × List AV) := [(c, [.np m 0, .int .i64 cl.last, F, .int .i64 cl.fuse, .bool cl.down, npC]), (m, [mcA (rowsE cl.has)])]
abbrev cluU (u : Value) (c m : Nat) (cl : Clu) : List (Nat × List AV) := cluF c m cl (.raw u)
def AV.noId1 : AV → Bool
 | .np _ _ => false
 | .sli _ _ _ _ => false
 | _ => true
def AV.noId : AV → Bool
 | .tup l => l.all AV.noId1
 | a => a.noId1
theorem tagB_no {B B' : Nat → Option Nat} {v : Value} {a : AV} (h : a.noId1 = true) : TagB B v a → TagB B' v a := by
 cases a <;> first | exact fun _ => trivial | cases h
theorem relB1_no {σ : Sg} {B B' : Nat → Option Nat} {v : Value} {a : AV} (h : a.noId1 = true) (hr : RelB1 σ B v a) : RelB1 σ B' v a := by
 cases a <;> first | exact hr | cases h
theorem relB_no {σ : Sg} {B B' : Nat → Option Nat} {v : Value} {a : AV} (h : a.noId = true) (hr : RelB σ B v a) : RelB σ B' v a := by
 cases a with
 | tup l =>
  obtain ⟨vs, h1, h2, h3⟩ := hr
  exact ⟨vs, h1, h2, fun j u x hu hx => relB1_no (List.all_eq_true.1 h x (List.mem_of_getElem? hx)) (h3 j u x hu hx)⟩
 | np _ _ => cases h
 | sli _ _ _ _ => cases h
 | _ => exact hr
theorem tagB_less {B B' : Nat → Option Nat} (hB : ∀ id g, B' id = some g → B id = some g) {v : Value} {a : AV} (h : TagB B v a) : TagB B' v a := by
 cases a with
 | np id off =>
  obtain ⟨g, h1, h2⟩ := h
  exact ⟨g, h1, fun g' hg => h2 g' (hB id g' hg)⟩
 | sli id e n c =>
  obtain ⟨h0, g, h1, h2⟩ := h
  exact ⟨h0, g, h1, fun g' hg => h2 g' (hB id g' hg)⟩
 | _ => trivial
theorem relB1_less {σ : Sg} {B B' : Nat → Option Nat} (hB : ∀ id g, B' id = some g → B id = some g) {v : Value} {a : AV} (h : RelB1 σ B v a) : RelB1 σ B' v a := by
 cases a with
 | np id off => exact tagB_less hB (a := .np id off) h
 | sli id e n c => exact tagB_less hB (a := .sli id e n c) h
 | _ => exact h
theorem MS.hide {P : Program} {f : FuncId} {c m q : Nat} (hcq : c ≠ q) (hmq : m ≠ q) {cl cl' : Clu} {args : List AV} {r : AV} {n cap : Nat} {cells : List AV} (hr : r.noId = true) (hcells : ∀ a ∈ cells, a.noId1 = true)
  (h : ∀ u : Value, u.oneCell' = true → MS P f (cluU u c m cl) args (cluU u c m cl') r) : MS P f (cluF c m cl (.sli q 1 n cap) ++ [(q, cells)]) args (cluF c m cl' (.sli q 1 n cap) ++ [(q, cells)]) r := by
 refine ⟨(h .nilIface rfl).cb, fun σ w B vs hh hg hdom hinj hgl hat hrs => ?_⟩
 obtain ⟨g0, t0, us, hB0, hH0, hR0, hT0, hf0⟩ := hat c _ (List.mem_append_left _ List.mem_cons_self)
 obtain ⟨g1, t1, us1, hB1, hH1, hR1, hT1, hf1⟩ := hat m _ (List.mem_append_left _ (List.mem_cons_of_mem _ (List.mem_singleton.2 rfl)))
 obtain ⟨g2, t2, us2, hB2, hH2, hR2, hT2, hf2⟩ := hat q cells (List.mem_append_right _ (List.mem_singleton.2 rfl))
 have hlen : us.toList.length = 6 := hR0.1
 obtain ⟨u, hu⟩ : ∃ u, us.toList[2]? = some u := ⟨_, List.getElem?_eq_getElem (by omega)⟩
 have hone : u.oneCell' = true := hR0.one u (List.mem_of_getElem? hu)
 obtain ⟨hnc, gs, hus, hgs⟩ : TagB B u (.sli q 1 n cap) := hT0 2 u _ hu rfl
 obtain ⟨B1, hB1d⟩ : ∃ B1 : Nat → Option Nat, ∀ id, B1 id = if id = q then none else B id := ⟨_, fun _ => rfl⟩
 have hsub : ∀ id g, B1 id = some g → B id = some g := fun id g hg => by
  rw [hB1d] at hg
  split at hg
  ·cases hg
  ·exact hg
 have hnq : ∀ g, B1 q ≠ some g := fun g hg => by rw [hB1d, if_pos rfl] at hg; cases hg
 have hat1 : BoxesAt σ w B1 (cluU u c m cl) := fun id cs hm => by
  rcases List.mem_cons.1 hm with hm | hm
  ·cases hm
   refine ⟨g0, t0, us, by rw [hB1d, if_neg hcq]; exact hB0, hH0, ⟨hR0.1, fun j v a hv ha => ?_⟩, fun j v a hv ha => ?_, hf0⟩
   ·by_cases hj : j = 2
    ·subst hj
     rw [hu] at hv
     cases hv
     cases ha
     exact .raw _ hone
    ·refine hR0.2 j v a hv ?_
     rcases j with _ | _ | _ | _ | _ | _ | j <;> first | exact ha | exact absurd rfl hj
   ·by_cases hj : j = 2
    ·subst hj
     cases ha
     trivial
    ·refine tagB_less hsub (hT0 j v a hv ?_)
     rcases j with _ | _ | _ | _ | _ | _ | j <;> first | exact ha | exact absurd rfl hj
  ·rw [List.mem_singleton] at hm
   cases hm
   exact ⟨g1, t1, us1, by rw [hB1d, if_neg hmq]; exact hB1, hH1, hR1, fun j v a hv ha => tagB_less hsub (hT1 j v a hv ha), hf1⟩
 have hlt2 : g2 < w.heap.size := hH2.lt
 have hK : ∀ b, (∃ id, B1 id = some b) → ∃ id, B id = some b := fun b ⟨id, h⟩ => ⟨id, hsub id b h⟩
 have hg2K : ¬ ∃ id, B1 id = some g2 := fun ⟨id, hid⟩ => by
  have := hinj id q g2 (hsub id g2 hid) hB2
  subst this
  exact hnq _ hid
 refine ((h u hone).run σ w B1 vs hh hg (fun id g hg => ?_) (fun id id' g h1 h2 => hinj id id' g (hsub _ _ h1) (hsub _ _ h2)) (fun id g hg => hgl id g (hsub _ _ hg)) hat1 ⟨hrs.1, fun j v a hv ha => relB1_less hsub (hrs.2 j v a hv ha)⟩).mono ?_
 ·have h1 := hdom id g (hsub id g hg)
  have hne : id ≠ q := fun e => by subst e; exact hnq _ hg
  simp [domS] at h1 ⊢
  rcases h1 with h1 | h1 | h1
  ·exact .inl h1
  ·exact .inr h1
  ·exact absurd h1 hne
 rintro e w' ⟨σ', v, B', he, hx, hho, hb, hd', hi', hat', hr', hrng, hkept⟩
 obtain ⟨B2, hB2d⟩ : ∃ B2 : Nat → Option Nat, ∀ id, B2 id = if id = q then B q else B' id := ⟨_, fun _ => rfl⟩
 have hne2 : ∀ id g, B' id = some g → id ≠ q := fun id g hg e => by
  subst e
  have := hd' id g hg
  simp [domS] at this
  rcases this with h | h
  ·exact hcq h.symm
  ·exact hmq h.symm
 have hsup : ∀ id, id ≠ q → B2 id = B' id := fun id h => by rw [hB2d, if_neg h]
 have hB2q : B2 q = some g2 := by rw [hB2d, if_pos rfl]; exact hB2
 have hng2 : ∀ id, B' id ≠ some g2 := fun id hid => by
  rcases hrng id g2 hid with ⟨id', h'⟩ | h'
  ·exact hg2K ⟨id', h'⟩
  ·omega
 refine ⟨σ', v, B2, he, ⟨hx.1, fun b o hlt hn => hx.2 b o hlt fun k => hn (hK b k)⟩, hho, ⟨hb.os, hb.tape, hb.output, hb.size, fun b hlt hn => hb.block b hlt fun k => hn (hK b k)⟩, fun id g hg => ?_, fun id id' g h1 h2 => ?_, fun id cs hm => ?_, relB_no hr hr', fun id g hg => ?_, fun id g g' h1 h2 => ?_⟩
 ·by_cases hq : id = q
  ·subst hq; simp [domS]
  ·rw [hsup id hq] at hg
   have := hd' id g hg
   simp [domS] at this ⊢
   rcases this with h | h
   ·exact .inl h
   ·exact .inr (.inl h)
 ·by_cases hq : id = q <;> by_cases hq' : id' = q
  ·rw [hq, hq']
  ·subst hq
   rw [hB2q] at h1
   cases h1
   rw [hsup id' hq'] at h2
   exact absurd h2 (hng2 id')
  ·subst hq'
   rw [hB2q] at h2
   cases h2
   rw [hsup id hq] at h1
   exact absurd h1 (hng2 id)
  ·rw [hsup id hq] at h1
   rw [hsup id' hq'] at h2
   exact hi' id id' g h1 h2
 ·rcases List.mem_append.1 hm with hm | hm
  ·rcases List.mem_cons.1 hm with hm | hm
   ·cases hm
    obtain ⟨g, t, us', k1, k2, k3, k4, k5⟩ := hat' c _ (List.mem_cons_self)
    have hl' : us'.toList.length = 6 := k3.1
    obtain ⟨u', hu'⟩ : ∃ u', us'.toList[2]? = some u' := ⟨_, List.getElem?_eq_getElem (by omega)⟩
    have hraw : Rel1 σ' u' (.raw u) := k3.2 2 u' _ hu' rfl
    have huu := raw_rel hraw
    subst huu
    refine ⟨g, t, us', by rw [hsup c hcq]; exact k1, k2, ⟨k3.1, fun j v a hv ha => ?_⟩, fun j v a hv ha => ?_, k5⟩
    ·by_cases hj : j = 2
     ·subst hj
      rw [hu'] at hv
      cases hv
      cases ha
      exact .top _ hone
     ·refine k3.2 j v a hv ?_
      rcases j with _ | _ | _ | _ | _ | _ | j <;> first | exact ha | exact absurd rfl hj
    ·by_cases hj : j = 2
     ·subst hj
      rw [hu'] at hv
      cases hv
      cases ha
      refine ⟨hnc, gs, hus, fun g' hg' => ?_⟩
      rw [hB2q] at hg'
      cases hg'
      exact hgs g2 hB2
     ·have h5 : TagB B' v a := k4 j v a hv (by
       rcases j with _ | _ | _ | _ | _ | _ | j <;> first | exact ha | exact absurd rfl hj)
      rcases j with _ | _ | _ | _ | _ | _ | j <;> first | (exact absurd rfl hj) | (simp at ha; done) | skip
      ·cases ha
       obtain ⟨g', q1, q2⟩ := h5
       exact ⟨g', q1, fun g'' hg'' => q2 g'' (by rw [← hsup m hmq]; exact hg'')⟩
      all_goals (cases ha; trivial)
   ·rw [List.mem_singleton] at hm
    cases hm
    obtain ⟨g, t, us', k1, k2, k3, k4, k5⟩ := hat' m _ (List.mem_cons_of_mem _ (List.mem_singleton.2 rfl))
    refine ⟨g, t, us', by rw [hsup m hmq]; exact k1, k2, k3, fun j v a hv ha => ?_, k5⟩
    rcases j with _ | j
    ·cases ha; trivial
    ·simp at ha
  ·rw [List.mem_singleton] at hm
   cases hm
   refine ⟨g2, t2, us2, hB2q, hH2.of (hb.block g2 hlt2 hg2K), ⟨hR2.1, fun j v a hv ha => (hR2.2 j v a hv ha).mono hx.1⟩, fun j v a hv ha => tagB_no (hcells a (List.mem_of_getElem? ha)) (hT2 j v a hv ha), fun j => ?_⟩
   rw [hx.2 g2 j hlt2 hg2K]
   exact hf2 j
 ·by_cases hq : id = q
  ·subst hq
   rw [hB2q] at hg
   cases hg
   exact .inl ⟨id, hB2⟩
  ·rw [hsup id hq] at hg
   exact (hrng id g hg).imp (fun ⟨id', h'⟩ => ⟨id', hsub id' g h'⟩) fun x => x
 ·by_cases hq : id = q
  ·subst hq
   rw [hB2q] at h2
   rw [hB2] at h1
   cases h1; cases h2; rfl
  ·rw [hsup id hq] at h2
   exact hkept id g g' (by rw [hB1d, if_neg hq]; exact h1) h2
end Go.Proofs.YtgidajjjpeboeaaGreatDoor
namespace Go.Proofs.YtgidajjjpeboeaaGreatDoor
open Go.RowKit Go.Maps Go.MapKept Go.ChangeMaps
def Clu.get (cl : Clu) (i : OId) : V × Int × Int := if cl.down = true then (V.null, 0, 31) else match cl.find i with
 | none => (V.null, 0, 3)
 | some e => (e.body, e.ver, 0)
abbrev nullC : List AV := [.int .i64 0, .bool false, .int .i64 0, .str ⟨#[]⟩, .lst .any 6 [], .lst .any 7 []]
theorem del_g (cl : Clu) (hk : CluK cl) {i : OId} (hi : KeyI i.k i.s i.n) : MOp Tryz.prog (.del 68 24 0) [(2900001, [mcA (rowsE cl.has)])] [.np 2900001 0, .agg (idA i)] [(2900001, [mcA (rowsE (cl.has.filter fun e => decide (e.id ≠ i)))])] (.tup []) := by
 obtain ⟨l, hl⟩ := hi
 rw [← rowsE_del]
 exact mop_del rfl Tryz.underlying68 keyedID (keys_ok hk.ids) (keyV_id i.k i.s i.n) hl
end Go.Proofs.YtgidajjjpeboeaaGreatDoor
