/-
  The texts that the claim wants, one behind the other: part 41.
-/
import Derived.Test.YtgidajjjpeboeaaGreatDoorS40
import Derived.DeepKeys4
set_option linter.unusedSimpArgs false
set_option linter.unusedVariables false
namespace Go.Proofs.YtgidajjjpeboeaaGreatDoor
open Go.RowKit Go.Maps Go.MapKept Go.ChangeMaps
theorem keyedID : Keyed Tryz.prog 24 := Keyed.of_law (deep_law_laid (by kernel_rfl) (m := 2) (by omega) (of_decide_eq_true (by kernel_rfl)) (by kernel_rfl) (by rw [Tryz.underlying24]))
def KeyI (a b c : ByteArray) : Prop := ∃ l, keyOf Tryz.prog 24 (.agg #[.string a, .string b, .string c]) = some l
theorem keyV_id (a b c : ByteArray) : keyV (idK a b c) = some (.agg #[.string a, .string b, .string c]) := rfl
abbrev zE : List AV := [.int .i64 0, .bool false, .int .i64 0, .str ⟨#[]⟩, .lst .any 6 [], .lst .any 7 [], .int .i64 0]
abbrev zV : Value := .agg #[.int .i64 0, .bool false, .int .i64 0, .string ⟨#[]⟩, .slice none 0 0, .slice none 0 0, .int .i64 0]
theorem zero_e (w : World) : (zeroValue 84).run Tryz.prog w = .ok zV w := by kernel_rfl
theorem rel_none (σ : Sg) (esz : Nat) : Rel1 σ (.slice none 0 0) (.lst .any esz []) := .lst .any esz [] none 0 0 0 0 (fun _ _ => undef) rfl (Nat.le_refl _) (fun h => by omega) (fun i c h => by simp at h) (fun i j h => by omega) (fun i j c a h => by simp at h) trivial
theorem zero_relE (σ : Sg) : RelP σ zV (valA zE) := ⟨_, rfl, .cons (.int _ _) (.cons (.bool _) (.cons (.int _ _) (.cons (.str _) (.cons (rel_none σ 6) (.cons (rel_none σ 7) (.cons (.int _ _) .nil))))))⟩
theorem keyI_of {a b c : ByteArray} (ha : a.size ≤ 140737488355328) (hb : b.size ≤ 140737488355328) (hc : c.size ≤ 140737488355328) : KeyI a b c := by
 have h9 : Tryz.prog.underlying 9 = some .string := Tryz.underlying9
 have hs : ∀ (d : Nat) (x : ByteArray), x.size ≤ 140737488355328 → Tryz.prog.keyLits (d + 1) 9 [.string x] = some [.string x.data.toList] := fun d x hx => by
  have : x.size ≤ maxLen := by unfold maxLen; omega
  simp [Program.keyLits, h9, this]
 have c9 : Tryz.prog.cellsOf 9 = 1 := by kernel_rfl
 have hk : ∀ n, Tryz.prog.keyLits (n + 2) 24 [.string a, .string b, .string c] = some [.string a.data.toList, .string b.data.toList, .string c.data.toList] := fun n => by
  have e1 := hs n a ha
  have e2 := hs n b hb
  have e3 := hs n c hc
  have ez : Tryz.prog.cellsOf 24 = 3 := by kernel_rfl
  unfold Program.keyLits
  simp [Tryz.underlying24, c9, e1, e2, e3, ez]
 obtain ⟨n, hn⟩ : ∃ n, Tryz.prog.types.size + 1 = n + 2 := ⟨Tryz.prog.types.size - 1, by
  have : 1 ≤ Tryz.prog.types.size := of_decide_eq_true (by kernel_rfl)
  omega⟩
 unfold KeyI keyOf
 rw [Tryz.underlying24]
 simp only
 rw [if_pos (by kernel_rfl), hn]
 rw [show (Value.agg #[.string a, .string b, .string c]).cells.toList = [.string a, .string b, .string c] from rfl, hk]
 exact ⟨_, rfl⟩
structure CluK (cl : Clu) : Prop where
 ok : CluOk cl
 ids : ∀ e ∈ cl.has, e.id.k.size ≤ 140737488355328 ∧ e.id.s.size ≤ 140737488355328 ∧ e.id.n.size ≤ 140737488355328
 last : 0 ≤ cl.last ∧ cl.last ≤ 1000000000
 fuse : -1000 ≤ cl.fuse ∧ cl.fuse ≤ 1000
 fails : (∀ n ∈ cl.fails, -1000000 ≤ n ∧ n ≤ 1000000) ∧ cl.fails.length ≤ 1000000
abbrev idA (i : OId) : List AV := [.str i.k, .str i.s, .str i.n]
theorem idA_inj {a b : OId} (h : idA a = idA b) : a = b := by
 cases a
 cases b
 simp at h
 simp [h]
theorem keys_ok {l : List CEnt} (h : ∀ e ∈ l, e.id.k.size ≤ 140737488355328 ∧ e.id.s.size ≤ 140737488355328 ∧ e.id.n.size ≤ 140737488355328) : KeysOk Tryz.prog 24 (rowsE l) := fun r hr => by
 obtain ⟨e, he, rfl⟩ := List.mem_map.1 hr
 obtain ⟨h1, h2, h3⟩ := h e he
 obtain ⟨l, hl⟩ := keyI_of h1 h2 h3
 exact ⟨_, l, keyV_id _ _ _, hl⟩
theorem rowsE_put (l : List CEnt) (e : CEnt) : putR (rowsE l) (idA e.id) (enV e.body e.ver) = rowsE (putE l e) := by
 unfold putR putE
 by_cases h : l.any (fun x => decide (x.id = e.id)) = true
 ·rw [if_pos h]
  obtain ⟨x, hx, hxe⟩ := List.any_eq_true.1 h
  rw [if_pos ⟨rowE x, List.mem_map.2 ⟨x, hx, rfl⟩, by rw [← of_decide_eq_true hxe]⟩]
  unfold rowsE
  rw [List.map_map, List.map_map]
  refine List.map_congr_left fun y _ => ?_
  simp only [Function.comp]
  by_cases hy : y.id = e.id
  ·rw [if_pos (by rw [← hy]), if_pos hy]
  ·rw [if_neg (fun k => hy (idA_inj k)), if_neg hy]
 ·rw [if_neg h, if_neg]
  ·unfold rowsE
   rw [List.map_append]
   rfl
  ·rintro ⟨r, hr, hk⟩
   obtain ⟨x, hx, rfl⟩ := List.mem_map.1 hr
   exact h (List.any_eq_true.2 ⟨x, hx, decide_eq_true (idA_inj hk)⟩)
open Classical in
theorem rowsE_del (l : List CEnt) (i : OId) : delR (rowsE l) (idA i) = rowsE (l.filter fun e => decide (e.id ≠ i)) := by
 unfold delR rowsE
 rw [List.filter_map]
 congr 1
 refine List.filter_congr fun e _ => ?_
 simp only [Function.comp]
 rw [Bool.eq_iff_iff, decide_eq_true_iff, decide_eq_true_iff]
 exact ⟨fun h k => h (by rw [← k]), fun h k => h (idA_inj k)⟩
theorem rowsE_find (cl : Clu) (i : OId) : Found (rowsE cl.has) (idA i) ((cl.find i).map fun e => enV e.body e.ver) := by
 cases h : cl.find i with
 | none =>
  intro r hr hk
  obtain ⟨e, he, rfl⟩ := List.mem_map.1 hr
  exact find_none.1 h e he (idA_inj hk)
 | some e =>
  unfold Clu.find at h
  have h1 := List.find?_some h
  have h2 := List.mem_of_find?_eq_some h
  refine List.mem_map.2 ⟨e, h2, ?_⟩
  rw [← of_decide_eq_true h1]
theorem enV_tup (v : V) (n : Int) : ∀ c ∈ enV v n, c.isTup = false := by
 intro c hc
 simp at hc
 rcases hc with rfl | rfl | rfl | rfl | rfl | rfl | rfl <;> rfl
theorem enV_val (v : V) (n : Int) : ∀ c ∈ enV v n, c.isVal = true := by
 intro c hc
 simp at hc
 rcases hc with rfl | rfl | rfl | rfl | rfl | rfl | rfl <;> rfl
theorem getN_g (cl : Clu) (hk : CluK cl) {i : OId} (hi : KeyI i.k i.s i.n) (h : cl.find i = none) : MOp Tryz.prog (.get 68 true) [(2900001, [mcA (rowsE cl.has)])] [.np 2900001 0, .agg (idA i)] [(2900001, [mcA (rowsE cl.has)])] (.tup [.agg zE, .bool false]) := by
 obtain ⟨l, hl⟩ := hi
 have hf := rowsE_find cl i
 rw [h] at hf
 exact mop_get (z := zE) (o := none) true rfl Tryz.underlying68 keyedID (keys_ok hk.ids) (keyV_id i.k i.s i.n) hl zero_e zero_relE hf (by
  intro c hc
  simp at hc
  rcases hc with rfl | rfl | rfl | rfl | rfl | rfl | rfl <;> rfl)
theorem getS_g (cl : Clu) (hk : CluK cl) {i : OId} (hi : KeyI i.k i.s i.n) {e : CEnt} (h : cl.find i = some e) : MOp Tryz.prog (.get 68 true) [(2900001, [mcA (rowsE cl.has)])] [.np 2900001 0, .agg (idA i)] [(2900001, [mcA (rowsE cl.has)])] (.tup [.agg (enV e.body e.ver), .bool true]) := by
 obtain ⟨l, hl⟩ := hi
 have hf := rowsE_find cl i
 rw [h] at hf
 exact mop_get (z := zE) (o := some (enV e.body e.ver)) true rfl Tryz.underlying68 keyedID (keys_ok hk.ids) (keyV_id i.k i.s i.n) hl zero_e zero_relE hf (enV_tup _ _)
theorem setE_g (cl : Clu) (hk : CluK cl) {i : OId} (hi : KeyI i.k i.s i.n) (v : V) (n : Int) : MOp Tryz.prog (.set 68) [(2900001, [mcA (rowsE cl.has)])] [.np 2900001 0, .agg (idA i), .agg (enV v n)] [(2900001, [mcA (rowsE (putE cl.has ⟨i, v, n⟩))])] (.bool true) := by
 obtain ⟨l, hl⟩ := hi
 rw [← rowsE_put]
 exact mop_set (vc := enV v n) rfl Tryz.underlying68 keyedID (keys_ok hk.ids) (keyV_id i.k i.s i.n) hl (enV_val v n)
theorem put_g (cl : Clu) (hk : CluK cl) {i : OId} (hi : KeyI i.k i.s i.n) (v : V) (hv : v.size ≤ 1000000) : MS Tryz.prog 45 (cluX 2000000 2900001 cl) [.np 2000000 0, .agg (idA i), (vA (v))] (cluX 2000000 2900001 (cl.put i v)) (.tup []) := by
 have hc : AC Tryz.prog 38 [(vA (v))] ((vA (v))) := clone_ok v (by omega)
 have hl := hk.last
 obtain ⟨has, last, fails, fuse, down⟩ := cl
 have e1 : last + 1 = IntKind.i64.wrap (last + 1) := (wrap_in (by dsimp only at hl; omega) (by dsimp only at hl; omega)).symm
 have hs := setE_g _ hk hi v (last + 1)
 unfold Clu.put
 dsimp only at hs ⊢
 rw [e1] at hs ⊢
 refine MS.enter Tryz.func45 a_cluster_Cluster_put_ok a_cluster_Cluster_put_cb (by rfl) (by rfl) fun E hE => ?_
 show AK _ _ _ [.c b_cluster_Cluster_put] _ _
 rw [b_cluster_Cluster_put]
 refine kW ?_
 refine kQ [.v ((vA (v))), .s [2900001] [(2900001, [mcA (rowsE (putE has ⟨i, v, IntKind.i64.wrap (last + 1)⟩))])] (.bool true)] ?_
 refine kW ?_
 show RQS _ _ _ .normal _ _
 exact ⟨⟨_, rfl, rfl⟩, ⟨_, rfl, rfl⟩, ⟨_, rfl, rfl⟩, trivial⟩
theorem write_g (cl : Clu) (hk : CluK cl) : MS Tryz.prog 43 (cluX 2000000 2900001 cl) [.np 2000000 0] (cluX 2000000 2900001 cl.write.2) (.int .i64 cl.write.1) := by
 have hfu := hk.fuse
 have hfa := hk.fails
 obtain ⟨has, last, fails, fuse, down⟩ := cl
 dsimp only at hfu hfa
 have hcn := contains_j 0 fails hfa.2
 have had := add_a 4
 have hll := leftJ_len fails
 unfold Clu.write
 refine MS.enter Tryz.func43 a_cluster_Cluster_write_ok a_cluster_Cluster_write_cb (by rfl) (by rfl) fun E hE => ?_
 show AK _ _ _ [.c b_cluster_Cluster_write] _ _
 rw [b_cluster_Cluster_write]
 cases down with
 | true =>
  rw [if_pos (by rfl)]
  refine kW ?_
  refine kP [] ?_ ?_
  ·((repeat' apply And.intro) <;> first | exact kD | (intro hgd; refine ⟨?_, kG⟩; (repeat' apply And.intro) <;> first | exact kD | skip) | skip)
   ·exact fun g o => someClu false g o
  refine kCf ?_
  refine kW ?_
  refine kQ [] ?_
  refine kCt ?_
  refine kW ?_
  exact AK.ret ⟨⟨_, rfl, rfl⟩, ⟨_, rfl, rfl⟩, ⟨_, rfl, rfl⟩, trivial⟩
 | false =>
  refine kW ?_
  refine kP [] ?_ ?_
  ·((repeat' apply And.intro) <;> first | exact kD | (intro hgd; refine ⟨?_, kG⟩; (repeat' apply And.intro) <;> first | exact kD | skip) | skip)
   ·exact fun g o => someClu false g o
  refine kCf ?_
  refine kW ?_
  refine kQ [] ?_
  refine kC (fun hb => ?_) fun hb => ?_
  ·have hf0 : fuse = 0 := by simpa using hb
   rw [if_pos (by simp [hf0])]
   refine kW ?_
   exact AK.ret ⟨⟨_, rfl, rfl⟩, ⟨_, rfl, rfl⟩, ⟨_, rfl, rfl⟩, trivial⟩
  ·have hf0 : fuse ≠ 0 := by simpa using hb
   rw [if_neg (by simp [hf0])]
   clear hb
   refine kW ?_
   refine AK.cut (frOf [(0, .np 2000000 0)]) ⟨boxOf [(2000000, [.np 2900001 0, .int .i64 last, .lst .any 1 (rowsJ fails), .int .i64 (if 0 < fuse then fuse - 1 else fuse), .bool false, npC], false), (2900001, [mcA (rowsE has)], false)], fun _ => 0⟩ ?_ ?_
   ·refine kC (fun hb => ?_) fun hb => ?_
    ·have hl : 0 < fuse := by simpa using hb
     rw [if_pos hl, show fuse - 1 = IntKind.i64.wrap (fuse - 1) from (wrap_in (by omega) (by omega)).symm]
     refine kW ?_
     exact AK.cutEnd (Weak.introN ⟨kI, trivial⟩ ⟨kJ, kJ, trivial⟩ rfl rfl ⟨rfl, rfl, trivial⟩)
    ·have hl : ¬ 0 < fuse := by simpa using hb
     rw [if_neg hl]
     refine kW ?_
     exact AK.cutEnd (Weak.introN ⟨kI, trivial⟩ ⟨kJ, kJ, trivial⟩ rfl rfl ⟨rfl, rfl, trivial⟩)
   generalize hfq : (if 0 < fuse then fuse - 1 else fuse) = fq
   refine kW ?_
   refine kQ [.v (.bool (decide (0 ∈ fails)))] ?_
   refine kW ?_
   refine AK.loopI (fun i : Nat × (Nat → Nat) => (frOf [(0, .np 2000000 0), (3, .bool (decide (0 ∈ fails))), (4, .lst (.own 58 (i.2 58)) 1 (rowsJ (leftJ (fails.take i.1)))), (46, .lst .any 1 (rowsJ fails)), (47, .int .i64 (rowsJ fails).length), (48, .int .i64 i.1)], ⟨boxOf [(2000000, [.np 2900001 0, .int .i64 last, .lst .any 1 (rowsJ fails), .int .i64 fq, .bool false, npC], false), (2900001, [mcA (rowsE has)], false)], i.2⟩))
    (fun i => i.1 ≤ fails.length) (fun i => fails.length - i.1) (0, fun _ => 0) (Nat.zero_le _) (Weak.introN ⟨kI, kI, ⟨_, rfl, .one (.own _ _ _ _)⟩, kI, kI, kI, trivial⟩ ⟨kJ, kJ, trivial⟩ rfl rfl ⟨rfl, rfl, trivial⟩) fun ⟨k, r⟩ hk => ?_
   dsimp only at hk
   refine kW ?_
   refine kC (fun hb => ?_) fun hb => ?_
   ·have hlt : k < fails.length := by simpa [rowsJ_len] using hb
    obtain ⟨n, hg⟩ : ∃ x, fails[k]? = some x := ⟨_, List.getElem?_eq_getElem hlt⟩
    have hnb := hfa.1 n (List.mem_of_getElem? hg)
    have hst := leftJ_take hg
    have hfl := leftJ_len (fails.take k)
    rw [List.length_take] at hfl
    refine kW ?_
    refine kP [.c [.int .i64 n]] ?_ ?_
    ·((repeat' apply And.intro) <;> first | exact kD | (intro hgd; refine ⟨?_, kG⟩; (repeat' apply And.intro) <;> first | exact kD | skip) | skip)
     all_goals exact rowsJ_at hg
    refine kW ?_
    refine kC (fun hb => ?_) fun hb => ?_
    ·have hn : 0 < n := by simpa using hb
     rw [if_pos hn] at hst
     refine kW ?_
     refine kP [] ?_ ?_
     ·((repeat' apply And.intro) <;> first | exact kD | (intro hgd; refine ⟨?_, kG⟩; (repeat' apply And.intro) <;> first | exact kD | skip) | skip)
      all_goals simp only [rowsJ_len, List.length_nil, List.length_cons]
      all_goals omega
     refine kW ?_
     exact AK.lp ⟨(k + 1, _), by dsimp only; omega, Weak.introN ⟨kI, kI, ⟨_, rfl, .of_eq (congrArg (AV.lst _ 1) (by rw [hst, rowsJ_snoc, wrap_in (by omega) (by omega)]; rfl))⟩, kI, kI, kU, trivial⟩ ⟨kJ, kJ, trivial⟩ rfl rfl ⟨rfl, rfl, trivial⟩, by dsimp only; omega⟩
    ·have hn : ¬ 0 < n := by simpa using hb
     rw [if_neg hn, List.append_nil] at hst
     refine kW ?_
     exact AK.lp ⟨(k + 1, r), by dsimp only; omega, Weak.introN ⟨kI, kI, ⟨_, rfl, .of_eq (congrArg (AV.lst _ 1) (by rw [hst]))⟩, kI, kI, kU, trivial⟩ ⟨kJ, kJ, trivial⟩ rfl rfl ⟨rfl, rfl, trivial⟩, by dsimp only; omega⟩
   ·have hlt : k = fails.length := by
     have : fails.length ≤ k := by simpa [rowsJ_len] using hb
     omega
    subst hlt
    rw [List.take_length]
    refine AK.exit rfl ?_
    refine kW ?_
    by_cases h0 : (0 : Int) ∈ fails
    ·rw [if_pos h0]
     refine AK.weak (Weak.introN (L := [(0, .np 2000000 0), (64, .bool true)]) (BL := [(2000000, [.np 2900001 0, .int .i64 last, .lst .any 1 (rowsJ (leftJ fails)), .int .i64 fq, .bool false, npC], false), (2900001, [mcA (rowsE has)], false)]) ⟨kI, ⟨_, rfl, by rw [decide_eq_true h0]; exact .refl _⟩, trivial⟩ ⟨⟨_, rfl, .refl _, .refl _, .any _ 1 _, .refl _, .refl _, .refl _, trivial⟩, kJ, trivial⟩ rfl rfl ⟨rfl, rfl, trivial⟩) ?_
     refine kCt ?_
     refine kW ?_
     refine kQ [.v (.int .i64 0)] ?_
     refine kW ?_
     exact AK.ret ⟨⟨_, rfl, rfl⟩, ⟨_, rfl, rfl⟩, ⟨_, rfl, rfl⟩, trivial⟩
    ·rw [if_neg h0]
     refine AK.weak (Weak.introN (L := [(0, .np 2000000 0), (64, .bool false)]) (BL := [(2000000, [.np 2900001 0, .int .i64 last, .lst .any 1 (rowsJ (leftJ fails)), .int .i64 fq, .bool false, npC], false), (2900001, [mcA (rowsE has)], false)]) ⟨kI, ⟨_, rfl, by rw [decide_eq_false h0]; exact .refl _⟩, trivial⟩ ⟨⟨_, rfl, .refl _, .refl _, .any _ 1 _, .refl _, .refl _, .refl _, trivial⟩, kJ, trivial⟩ rfl rfl ⟨rfl, rfl, trivial⟩) ?_
     refine kCf ?_
     refine kW ?_
     exact AK.ret ⟨⟨_, rfl, rfl⟩, ⟨_, rfl, rfl⟩, ⟨_, rfl, rfl⟩, trivial⟩
theorem CluK.write {cl : Clu} (h : CluK cl) : CluK cl.write.2 := by
 obtain ⟨⟨h1, h2, h3⟩, h4, h5, h6, h7, h8⟩ := h
 unfold Clu.write
 split
 ·exact ⟨⟨h1, h2, h3⟩, h4, h5, h6, h7, h8⟩
 ·refine ⟨⟨h1, h2, h3⟩, h4, h5, ?_, ?_, ?_⟩
  ·dsimp only
   split <;> omega
  ·intro n hn
   obtain ⟨m, hm, rfl⟩ := List.mem_map.1 hn
   obtain ⟨hm1, hm2⟩ := List.mem_filter.1 hm
   have hp : 0 < m := by simpa using hm2
   have := h7 m hm1
   omega
  ·exact Nat.le_trans (leftJ_len cl.fails) h8
theorem putE_all {l : List CEnt} {e : CEnt} {P : CEnt → Prop} (h : ∀ x ∈ l, P x) (he : P e) : ∀ x ∈ putE l e, P x := by
 unfold putE
 split
 ·intro x hx
  obtain ⟨y, hy, rfl⟩ := List.mem_map.1 hx
  split
  ·exact he
  ·exact h y hy
 ·intro x hx
  rcases List.mem_append.1 hx with hx | hx
  ·exact h x hx
  ·rw [List.mem_singleton.1 hx]; exact he
theorem putE_nd {l : List CEnt} {e : CEnt} (h : (l.map fun e => e.id).Nodup) : ((putE l e).map fun e => e.id).Nodup := by
 unfold putE
 split
 ·rw [List.map_map]
  rw [show l.map ((fun e : CEnt => e.id) ∘ fun x => if x.id = e.id then e else x) = l.map fun e => e.id from List.map_congr_left fun x _ => by
   simp only [Function.comp]
   split
   ·rename_i hx; exact hx.symm
   ·rfl]
  exact h
 ·rename_i hn
  rw [List.map_append, List.nodup_append]
  refine ⟨h, by simp, fun a ha b hb e' => ?_⟩
  simp at hb
  subst hb
  obtain ⟨x, hx, rfl⟩ := List.mem_map.1 ha
  exact hn (List.any_eq_true.2 ⟨x, hx, decide_eq_true e'⟩)
theorem putE_len (l : List CEnt) (e : CEnt) : (putE l e).length ≤ l.length + 1 := by
 unfold putE
 split <;> simp
theorem CluK.put {cl : Clu} (h : CluK cl) {i : OId} {v : V} (hi : i.k.size ≤ 140737488355328 ∧ i.s.size ≤ 140737488355328 ∧ i.n.size ≤ 140737488355328) (hv : v.size ≤ 1000000) (hl : cl.has.length < 1000000) (hla : cl.last < 1000000000) : CluK (cl.put i v) := by
 obtain ⟨⟨h1, h2, h3⟩, h4, h5, h6, h7⟩ := h
 refine ⟨⟨putE_nd h1, putE_all (P := fun e => e.body.size ≤ 1000000) h2 hv, ?_⟩, putE_all (P := fun e : CEnt => e.id.k.size ≤ 140737488355328 ∧ e.id.s.size ≤ 140737488355328 ∧ e.id.n.size ≤ 140737488355328) h4 hi, ?_, h6, h7⟩
 ·have := putE_len cl.has ⟨i, v, cl.last + 1⟩
  show (putE cl.has ⟨i, v, cl.last + 1⟩).length ≤ _
  omega
 ·show 0 ≤ cl.last + 1 ∧ cl.last + 1 ≤ _
  omega
theorem CluK.filter {cl : Clu} (h : CluK cl) (p : CEnt → Bool) : CluK { cl with has := cl.has.filter p } := by
 obtain ⟨⟨h1, h2, h3⟩, h4, h5, h6, h7⟩ := h
 exact ⟨⟨h1.sublist (List.filter_sublist.map _), fun e he => h2 e (List.mem_filter.1 he).1, Nat.le_trans (List.length_filter_le _ _) h3⟩, fun e he => h4 e (List.mem_filter.1 he).1, h5, h6, h7⟩
theorem fuse_g (cl : Clu) (n : Int) : MS Tryz.prog 25 (cluX 2000000 2900001 cl) [.np 2000000 0, .int .i64 n] (cluX 2000000 2900001 { cl with fuse := n }) (.tup []) := by
 obtain ⟨has, last, fails, fuse, down⟩ := cl
 refine MS.enter Tryz.func25 a_cluster_Cluster_Fuse_ok a_cluster_Cluster_Fuse_cb (by rfl) (by rfl) fun E hE => ?_
 show AK _ _ _ [.c b_cluster_Cluster_Fuse] _ _
 rw [b_cluster_Cluster_Fuse]
 refine kS ?_
 refine kP [] ?_ ?_
 ·((repeat' apply And.intro) <;> first | exact kD | (intro hgd; refine ⟨?_, kG⟩; (repeat' apply And.intro) <;> first | exact kD | skip) | skip)
  ·exact fun g o => someClu true g o
 refine kCt ?_
 refine kQ [] ?_
 show RQS _ _ _ .normal _ _
 exact ⟨⟨_, rfl, rfl⟩, ⟨_, rfl, rfl⟩, ⟨_, rfl, rfl⟩, trivial⟩
theorem down_g (cl : Clu) : MS Tryz.prog 50 (cluX 2000000 2900001 cl) [.np 2000000 0] (cluX 2000000 2900001 cl) (.bool cl.down) := by
 obtain ⟨has, last, fails, fuse, down⟩ := cl
 refine MS.enter Tryz.func50 a_cluster_Cluster_Down_ok a_cluster_Cluster_Down_cb (by rfl) (by rfl) fun E hE => ?_
 show AK _ _ _ [.c b_cluster_Cluster_Down] _ _
 rw [b_cluster_Cluster_Down]
 refine kW ?_
 refine kP [] ?_ ?_
 ·((repeat' apply And.intro) <;> first | exact kD | (intro hgd; refine ⟨?_, kG⟩; (repeat' apply And.intro) <;> first | exact kD | skip) | skip)
  ·exact fun g o => someClu true g o
 refine kW ?_
 exact AK.ret ⟨⟨_, rfl, rfl⟩, ⟨_, rfl, rfl⟩, ⟨_, rfl, rfl⟩, trivial⟩
end Go.Proofs.YtgidajjjpeboeaaGreatDoor
namespace Go.Proofs.YtgidajjjpeboeaaGreatDoor
open Go.RowKit
theorem arun_split {P : Program} : ∀ {l1 l2 : List GI} {rs rs1 rs2 : List RS} {fr fr1 fr2 : Fr} {st st1 st2 : St} {p1 p2 : Prop}, arun P l1 rs fr st = some (rs1, fr1, st1, p1) → arun P l2 rs1 fr1 st1 = some (rs2, fr2, st2, p2) → ∃ p, arun P (l1 ++ l2) rs fr st = some (rs2, fr2, st2, p) ∧ (p1 → p2 → p)
 | [], l2, rs, rs1, rs2, fr, fr1, fr2, st, st1, st2, p1, p2, h1, h2 => by
  cases h1
  exact ⟨p2, h2, fun _ h => h⟩
 | x :: l, l2, rs, rs1, rs2, fr, fr1, fr2, st, st1, st2, p1, p2, h1, h2 => by
  rw [List.cons_append]
  unfold arun at h1 ⊢
  cases hw : x.i.wantsRS with
  | true =>
   rw [hw] at h1
   simp only at h1 ⊢
   cases rs with
   | nil => cases h1
   | cons r rs =>
    simp only at h1 ⊢
    split at h1
    ·rename_i f s q hg
     split at h1
     ·rename_i rs' f' s' q' ha
      injection h1 with h1
      injection h1 with e1 h1
      injection h1 with e2 h1
      injection h1 with e3 e4
      subst e1 e2 e3 e4
      obtain ⟨p, hp, hi⟩ := arun_split ha h2
      rw [hp]
      exact ⟨q ∧ p, rfl, fun h h' => ⟨h.1, hi h.2 h'⟩⟩
     ·cases h1
    ·cases h1
  | false =>
   rw [hw] at h1
   simp only at h1 ⊢
   split at h1
   ·rename_i f s q hq hg
    obtain ⟨p, hp, hi⟩ := arun_split h1 h2
    exact ⟨p, hp, hi⟩
   ·rename_i f s q hq hg
    split at h1
    ·rename_i rs' f' s' q' ha
     injection h1 with h1
     injection h1 with e1 h1
     injection h1 with e2 h1
     injection h1 with e3 e4
     subst e1 e2 e3 e4
     obtain ⟨p, hp, hi⟩ := arun_split ha h2
     rw [hp]
     exact ⟨q ∧ p, rfl, fun h h' => ⟨h.1, hi h.2 h'⟩⟩
    ·cases h1
   ·cases h1
theorem upd_told {fr : Fr} {s : Nat} {v : AV} (h : fr s = some v) : upd fr s (some v) = fr := by
 funext i
 unfold upd
 cases hi : Nat.beq i s with
 | true => rw [Nat.eq_of_beq_eq_true hi]; exact h.symm
 | false => rfl
theorem AK.regC {P : Program} {E : Env} {Q : Exit → Fr → St → Prop} {k : List AItem} {fr fr1 fr2 : Fr} {st st1 st2 : St} {l : List GI} (j s : Nat) (v : AV) (rs : List RS) {rs1 rs2 : List RS} {p1 p2 : Prop} {v1 : AV} (hp1 : p1) (hv : v1 = v) (hp2 : p2) (h : AK P E Q k fr2 st2) (h1 : arun P (l.take j) rs fr st = some (rs1, fr1, st1, p1) := by rfl) (hs : fr1 s = some v1 := by rfl) (h2 : arun P (l.drop j) rs1 (upd fr1 s (some v)) st1 = some (rs2, fr2, st2, p2) := by rfl) (hm : P.follows .mixedOrders = true := by exact fw0) : AK P E Q (.c (.reg l) :: k) fr st := by
 subst hv
 rw [upd_told hs] at h2
 obtain ⟨p, hp, hi⟩ := arun_split h1 h2
 rw [List.take_append_drop] at hp
 exact AK.reg hm hp (hi hp1 hp2) h
end Go.Proofs.YtgidajjjpeboeaaGreatDoor
