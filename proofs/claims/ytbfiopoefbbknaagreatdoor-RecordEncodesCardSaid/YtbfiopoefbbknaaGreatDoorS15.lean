/-
  The texts that the claim wants, one behind the other: part 15.
-/
import Derived.Test.YtbfiopoefbbknaaGreatDoorS14
import Derived.BigQuiet
set_option linter.unusedSimpArgs false
set_option linter.unusedVariables false
namespace Go.Proofs.YtbfiopoefbbknaaGreatDoor
open Go.RowKit
set_option maxRecDepth 100000 in
theorem cloneP_nilf : AC Tryz.prog 77 [.lst .any 7 []] (.lst .full 7 []) := by
 refine ⟨a_slices_Clone_Pair_cb, fun σ w vs hh hr hg => ?_⟩
 obtain ⟨v, rfl⟩ := List.length_eq_one_iff.1 hr.1
 have h1 : Rel1 σ v (.lst .any 7 []) := hr.2 0 v _ rfl rfl
 obtain ⟨A, cap, b, o, news, rfl, _⟩ := lst_cells h1
 have q24 : ∀ (w : World) (a : Option Addr) (n c : Nat), (binOp .eql 37 (.slice a n c) (.slice none 0 0)).run Tryz.prog w = .ok (.bool a.isNone) w := fun w a n c => by simp [binOp, run_equal_slice_nil w _ _ a n c Tryz.underlying37]
 obtain ⟨i0, hi0, _⟩ := info_parts info_pair
 have hrel : ∀ (A : Option Addr), RelR σ (.slice A 0 0) (.lst .full 7 []) := fun A => .lst .full 7 [] A 0 0 0 0 (fun _ _ => undef) rfl (by omega) (fun h => by omega) (fun i c h => by simp at h) (fun i j h => by omega) (fun i j c a h => by simp at h) rfl
 cases A with
 | none =>
  go_enter Tryz.func77, Tryz.ntmps77
  go_wp2
  go_ret
  exact ⟨σ, _, rfl, Ext.refl _ _, hh, Below.refl _ _, hrel none⟩
 | some a =>
  have hrun := fun ty => run_append_zero (P := Tryz.prog) (w.alloc (.cells #[] 43)) 37 ty 43 Tryz.underlying37 hi0 (some ⟨w.heap.size, 0, none⟩) (some a) 0 0 cap (by omega)
  go_enter Tryz.func77, Tryz.ntmps77
  go_wp2_with (at_builtin; refine Lib.wpList_append_run _ rfl _ _ _ _ rfl _ _ rfl rfl _ _ (hrun _) ?_)
  go_wp2
  go_ret
  have hbl : Below w.heap.size w (w.alloc (.cells #[] 43)) := (Below.refl _ _).alloc (Nat.le_refl _) _
  exact ⟨σ, _, rfl, Ext.refl _ _, fun b q v hv => (hbl.cell (p := ⟨b, q, none⟩) (World.block_lt_of_cell? w _ (hh _ _ _ hv))).trans (hh _ _ _ hv), hbl, hrel _⟩
theorem mapOf_put {key : ByteArray} {x : V} {m : List (ByteArray × V)} (h : Rises m) : mapOf (m ++ [(key, x)]) = minsert key x m := by
 have := mapOf_take (l := m ++ [(key, x)]) (k := m.length) (p := (key, x)) (by simp)
 rw [List.take_of_length_le (by simp), List.take_left', mapOf_rises h] at this
 ·exact this
 ·rfl
theorem treePut_o (v : V) (key : ByteArray) (x : V) (ho : v.ord) (hs : v.size + x.size ≤ 1000000000000) : AC Tryz.prog 39 [(vA (v)), .str key, (vA (x))] ((vA ((vMap (minsert key x v.m))))) := by
 have hor := (V.ord_eq v).1 ho
 have hve := v.size_eq
 have hlm := len_le_sizeM v.m
 have hsz : sizeM (v.m ++ [(key, x)]) ≤ 1000000000000 := by
  have : ∀ m : List (ByteArray × V), sizeM (m ++ [(key, x)]) = sizeM m + x.size := by
   intro m
   induction m with
   | nil => simp [sizeM]
   | cons p m ih => obtain ⟨k, u⟩ := p; simp only [List.cons_append, sizeM, ih]; omega
  rw [this]; omega
 have hT := treeMap_a (v.m ++ [(key, x)]) hsz
 rw [mapOf_put hor.2.2.1, rowsM_append, rowsM, rowsM, cellsV_eq] at hT
 show AC Tryz.prog 39 [(vA (v)), .str key, (vA (x))] (.agg [.int .i64 5, .bool false, .int .i64 0, .str ⟨#[]⟩, .lst .any 6 [], .lst .any 7 (rowsM (minsert key x v.m))])
 by_cases hk : v.kind = 5
 ·have hv := hor.1 hk
  generalize v.m = m at *
  subst hv
  refine kE Tryz.func39 a_tree_Put_ok a_tree_Put_cb fun E hE => ?_
  refine kW ?_
  refine kC (fun hb => ?_) fun hb => ?_
  ·cases hb
  cases m with
  | nil =>
   refine kW ?_
   refine kP [.v (.lst .full 7 []), .v (.agg [.int .i64 5, .bool false, .int .i64 0, .str ⟨#[]⟩, .lst .any 6 [], .lst .any 7 (rowsM (minsert key x []))])] ?_ ?_
   ·((repeat' apply And.intro) <;> first | exact kD | (intro hgd; refine ⟨?_, kG⟩; (repeat' apply And.intro) <;> first | exact kD | skip) | skip)
    ·exact cloneP_nilf
   refine kW ?_
   refine AK.ret ⟨_, rfl, ?_⟩
   rfl
  | cons p m =>
   refine kW ?_
   refine kP [.o 7 (rowsM (p :: m)), .v (.agg [.int .i64 5, .bool false, .int .i64 0, .str ⟨#[]⟩, .lst .any 6 [], .lst .any 7 (rowsM (minsert key x (p :: m)))])] ?_ ?_
   ·((repeat' apply And.intro) <;> first | exact kD | (intro hgd; refine ⟨?_, kG⟩; (repeat' apply And.intro) <;> first | exact kD | skip) | skip)
    ·exact cloneP_mf (rowsM (p :: m)) (by rw [rowsM_len]; simp) (by rw [rowsM_len]; omega)
    all_goals simp only [rowsM_len, List.length_nil, List.length_cons, List.length_map] at hlm ⊢
    all_goals omega
   refine kW ?_
   refine AK.ret ⟨_, rfl, ?_⟩
   rfl
 ·have hm := hor.2.1 hk
  rw [hm] at hT ⊢
  refine kE Tryz.func39 a_tree_Put_ok a_tree_Put_cb fun E hE => ?_
  refine kW ?_
  refine kC (fun hb => ?_) fun hb => ?_
  ·refine kW ?_
   refine kP [.v (.lst .full 7 []), .v (.agg [.int .i64 5, .bool false, .int .i64 0, .str ⟨#[]⟩, .lst .any 6 [], .lst .any 7 (rowsM (minsert key x []))])] ?_ ?_
   ·((repeat' apply And.intro) <;> first | exact kD | (intro hgd; refine ⟨?_, kG⟩; (repeat' apply And.intro) <;> first | exact kD | skip) | skip)
    ·exact cloneP_nilf
   refine kW ?_
   refine AK.ret ⟨_, rfl, ?_⟩
   rfl
  ·exact absurd (by simpa using hb) hk
theorem treeGet_o (v : V) (key : ByteArray) (ho : v.ord) (hsz : v.size ≤ 1000000000000) : AC Tryz.prog 36 [(vA (v)), .str key] (.tup [(vA (((mfind key v.m).getD V.null))), .bool (mfind key v.m).isSome]) := by
 have hve := v.size_eq
 have hlm := len_le_sizeM v.m
 have hor := (V.ord_eq v).1 ho
 have hs := hor.2.2.1
 cases hf : mfind key v.m with
 | none =>
  refine kE Tryz.func36 a_tree_Get_ok a_tree_Get_cb fun E hE => ?_
  refine kW ?_
  refine kC (fun hb => ?_) fun hb => ?_
  ·refine kW ?_
   refine AK.ret ⟨_, rfl, ?_⟩
   rfl
  refine kW ?_
  refine kP [.v (.tup [.int .i64 (bpos key v.m : Nat), .bool (bfound key v.m)])] ?_ ?_
  ·((repeat' apply And.intro) <;> first | exact kD | (intro hgd; refine ⟨?_, kG⟩; (repeat' apply And.intro) <;> first | exact kD | skip) | skip)
   ·exact bsearch_a v.m key hs (by omega)
  rw [bfound_none hf]
  refine kW ?_
  refine kC (fun hb => ?_) fun hb => ?_
  ·refine kW ?_
   refine AK.ret ⟨_, rfl, ?_⟩
   rfl
  ·cases hb
 | some x =>
  obtain ⟨h1, h2⟩ := bfound_some hs hf
  have hxs := mfind_size hf
  refine kE Tryz.func36 a_tree_Get_ok a_tree_Get_cb fun E hE => ?_
  refine kW ?_
  refine kC (fun hb => ?_) fun hb => ?_
  ·have hk : v.kind ≠ 5 := by simpa using hb
   rw [hor.2.1 hk] at hf
   cases hf
  refine kW ?_
  refine kP [.v (.tup [.int .i64 (bpos key v.m : Nat), .bool (bfound key v.m)])] ?_ ?_
  ·((repeat' apply And.intro) <;> first | exact kD | (intro hgd; refine ⟨?_, kG⟩; (repeat' apply And.intro) <;> first | exact kD | skip) | skip)
   ·exact bsearch_a v.m key hs (by omega)
  rw [h2]
  refine kW ?_
  refine kC (fun hb => ?_) fun hb => ?_
  ·cases hb
  ·refine kW ?_
   refine kP [.c (.str key :: (vC (x))), .v ((vA (x)))] ?_ ?_
   ·((repeat' apply And.intro) <;> first | exact kD | (intro hgd; refine ⟨?_, kG⟩; (repeat' apply And.intro) <;> first | exact kD | skip) | skip)
    ·exact rowsM_at h1
    ·exact clone_ok x (by omega)
   refine kW ?_
   refine AK.ret ⟨_, rfl, ?_⟩
   rfl
theorem treeList_a : AC Tryz.prog 137 [.lst .any 6 []] (.agg [.int .i64 4, .bool false, .int .i64 0, .str ⟨#[]⟩, .lst .nil 6 [], .lst .nil 7 []]) := by
 refine AC.enterR Tryz.func137 a_tree_List_ok a_tree_List_cb (by rfl) fun E hE => ?_
 show AK _ _ _ [.c b_tree_List] _ _
 rw [b_tree_List]
 refine kW ?_
 refine AK.loopI (fun i : Nat => (frOf [(2, .ptr 2 0), (3, .ptr 3 0), (7, .lst .any 6 []), (8, .int .i64 0), (9, .int .i64 i)], ⟨boxOf [(2, [.int .i64 0, .bool false, .int .i64 0, .str ⟨#[]⟩, .lst .nil 6 [], .lst .nil 7 []], false), (3, [.int .i64 4, .bool false, .int .i64 0, .str ⟨#[]⟩, .lst .nil 6 [], .lst .nil 7 []], false)], fun _ => 0⟩)) (fun i => i ≤ 0) (fun i => 0 - i) 0 (by omega) (Weak.intro ⟨kI, kI, kI, kI, kI, trivial⟩ ⟨kJ, kJ, trivial⟩ rfl rfl) fun i hi => ?_
 refine kW ?_
 refine kC (fun hb => ?_) fun hb => ?_
 ·exfalso
  have : (i : Int) < 0 := by simpa using hb
  omega
 ·refine AK.exit rfl ?_
  refine kW ?_
  refine AK.ret ⟨_, rfl, ?_⟩
  rfl
def fA (r : V × Bs × Int) : AV := .tup [(vA (r.1)), .str (toB r.2.1), .int .i64 r.2.2]
def flowJ (n : Nat) : Bs → V × Bs × Int
 | [] => flowF n (.flow []) []
 | d :: u => if d = 93 then (vList [], tl u, 0) else flowF n (.flow []) (d :: u)
def bracJ (n : Nat) : Bs → V × Bs × Int
 | [] => flowF n (.braces []) []
 | d :: u => if d = 125 then (vMap [], tl u, 0) else flowF n (.braces []) (d :: u)
def flowI (n : Nat) (t : Bs) : V × Bs × Int := flowJ n (tl t)
def bracI (n : Nat) (t : Bs) : V × Bs × Int := bracJ n (tl t)
def head1 (c : UInt8) : Bs → Bool
 | [] => false
 | d :: _ => d == c
theorem has1_h (l : Bs) (c : UInt8) : AC Tryz.prog 134 [.str (toB l), .str ⟨#[c]⟩] (.bool (head1 c l)) := by
 have h := has_a (toB l) ⟨#[c]⟩
 rw [has1_toB] at h
 exact h
def OneOk (N : Nat) : Prop := ∀ (n : Nat) (ends s : Bs), s.length ≤ N → 2 * s.length + 1 ≤ n → AC Tryz.prog 139 [.str (toB s), .str (toB ends)] (fA (flowF n (.one ends) s))
theorem rowsV_snoc (l : List V) (x : V) : rowsV (l ++ [x]) = rowsV l ++ [cellsV x] := by
 induction l with
 | nil => simp [rowsV]
 | cons y l ih => simp [rowsV, ih]
theorem ext1 (c : UInt8) (u : Bs) : (toB (c :: u)).extract (1 : Int).toNat ((toB (c :: u)).size : Int).toNat = toB u := toB_from (c :: u) 1
theorem flow_a {N : Nat} (hP : OneOk N) (hN : N ≤ 1000000) (n : Nat) (t : Bs) (ht : t.length ≤ N) (hn : 2 * t.length + 2 ≤ n) : AC Tryz.prog 178 [.str (toB t)] (fA (flowI n t)) := by
 have hl := treeList_a
 have htl := tl_a t
 have htz := tl_len t
 have hp := has1_h (tl t) 93
 unfold flowI
 refine kE Tryz.func178 a_yaml_flow_ok a_yaml_flow_cb fun E hE => ?_
 refine kW ?_
 refine kQ [.v (.agg [.int .i64 4, .bool false, .int .i64 0, .str ⟨#[]⟩, .lst .nil 6 [], .lst .nil 7 []])] ?_
 refine kW ?_
 refine kQ [.v (.str (toB (tl t)))] ?_
 refine kW ?_
 generalize tl t = s0 at *
 refine kQ [.v (.bool (head1 93 s0))] ?_
 refine kC (fun hb => ?_) fun hb => ?_
 ·cases s0 with
  | nil => cases hb
  | cons d u =>
   have hd : d = 93 := by simpa [head1] using hb
   subst hd
   rw [flowJ, if_pos rfl]
   have h2 := tl_a u
   have hsz : (toB ((93 : UInt8) :: u)).size = u.length + 1 := rfl
   refine kW ?_
   refine kP [.v (.str (toB (tl u)))] ?_ ?_
   ·((repeat' apply And.intro) <;> first | exact kD | (intro hgd; refine ⟨?_, kG⟩; (repeat' apply And.intro) <;> first | exact kD | skip) | skip)
    all_goals first | (rw [hsz]; omega) | (rw [ext1]; exact h2) | skip
   refine kW ?_
   refine AK.ret ⟨_, rfl, ?_⟩
   rfl
 ·have hR : flowJ n s0 = flowF n (.flow []) s0 := by
   cases s0 with
   | nil => rfl
   | cons d u => exact if_neg (by simpa [head1] using hb)
  rw [hR]
  clear hR hb hp htl
  generalize hRR : flowF n (.flow []) s0 = R
  refine kW ?_
  refine AK.loopI (fun i : (Nat → Nat) × List V × Bs × Nat => (frOf [(0, .str (toB i.2.2.1)), (2, .ptr 2 0), (3, .str ⟨#[]⟩), (4, .int .i64 0), (5, .ptr 5 0)], ⟨boxOf [(2, [.int .i64 0, .bool false, .int .i64 0, .str ⟨#[]⟩, .lst .nil 6 [], .lst .nil 7 []], false), (5, [.int .i64 4, .bool false, .int .i64 0, .str ⟨#[]⟩, .lst (.own 32 (i.1 32)) 6 (rowsV i.2.1), .lst .nil 7 []], false)], i.1⟩))
   (fun i => flowF i.2.2.2 (.flow i.2.1) i.2.2.1 = R ∧ i.2.2.1.length ≤ N ∧ 2 * i.2.2.1.length + 2 ≤ i.2.2.2 ∧ sizeL i.2.1 + i.2.2.1.length ≤ N ∧ RdL i.2.1) (fun i => i.2.2.1.length) (fun _ => 0, [], s0, n) ⟨hRR, by dsimp only; omega, by dsimp only; omega, by dsimp only [sizeL]; omega, fun x hx => by cases hx⟩
   (Weak.intro ⟨kI, kI, kI, kI, kI, trivial⟩ ⟨kJ, ⟨_, rfl, .refl _, .refl _, .refl _, .refl _, .own _ _ _ _, .refl _, trivial⟩, trivial⟩ rfl rfl) fun ⟨r, out, s, m⟩ ⟨hR, hs, hm, hz, hrd⟩ => ?_
  dsimp only at hR hs hm hz hrd
  obtain ⟨m, rfl⟩ : ∃ k, m = k + 1 := ⟨m - 1, by omega⟩
  have hone := hP m [44, 93] s hs (by omega)
  have hok := flow_ok m (.one [44, 93]) s (by omega) (by simp only [FMsz]; omega) trivial
  have hunf : flowF (m + 1) (.flow out) s = (match flowF m (.one [44, 93]) s with
   | (v, rest, e) => if e ≠ 0 then (V.null, [], e) else match rest with
    | [] => (V.null, [], 10)
    | c :: u => if c = 93 then (vList (out ++ [v]), tl u, 0) else if c = 44 then flowF m (.flow (out ++ [v])) u else (V.null, [], 10)) := rfl
  rw [hunf] at hR
  generalize flowF m (.one [44, 93]) s = q at *
  obtain ⟨v, rest, e⟩ := q
  dsimp only at hR
  refine kW ?_
  refine kQ [.v (fA (v, rest, e))] ?_
  refine kW ?_
  refine kC (fun hb => ?_) fun hb => ?_
  ·have he : e ≠ 0 := by simpa using hb
   rw [if_pos he] at hR
   refine kW ?_
   refine AK.ret ⟨_, rfl, ?_⟩
   rw [← hR]
   rfl
  ·have he : e = 0 := by simpa using hb
   subst he
   rw [if_neg (by simp)] at hR
   have hf := hok.fit rfl
   simp only [FMsz] at hf
   have hll := len_le_sizeL out
   have hv1 := v.size_pos
   have hp1 := has1_h rest 93
   have hp2 := has1_h rest 44
   have hsz1 : sizeL (out ++ [v]) = sizeL out + v.size := by rw [sizeL_append]; simp [sizeL]
   refine kW ?_
   refine kP [] ?_ ?_
   ·((repeat' apply And.intro) <;> first | exact kD | (intro hgd; refine ⟨?_, kG⟩; (repeat' apply And.intro) <;> first | exact kD | skip) | skip)
    all_goals simp only [rowsV_len, List.length_nil, List.length_cons]
    all_goals omega
   refine kW ?_
   refine kQ [.v (.bool (head1 93 rest))] ?_
   cases rest with
   | nil =>
    refine kC (fun hb => ?_) fun hb => ?_
    ·cases hb
    ·refine kW ?_
     refine kQ [.v (.bool false)] ?_
     refine kW ?_
     refine kC (fun hb => ?_) fun hb => ?_
     ·refine kW ?_
      refine AK.ret ⟨_, rfl, ?_⟩
      rw [← hR]
      rfl
     ·simp at hb
   | cons c u =>
    have hsz : (toB (c :: u)).size = u.length + 1 := rfl
    have h2 := tl_a u
    simp only [List.length_cons] at hf
    dsimp only at hR
    refine kC (fun hb => ?_) fun hb => ?_
    ·have hc : c = 93 := by simpa [head1] using hb
     rw [if_pos hc] at hR
     refine kW ?_
     refine kP [.v (.str (toB (tl u)))] ?_ ?_
     ·((repeat' apply And.intro) <;> first | exact kD | (intro hgd; refine ⟨?_, kG⟩; (repeat' apply And.intro) <;> first | exact kD | skip) | skip)
      all_goals first | (rw [hsz]; omega) | (rw [ext1]; exact h2) | skip
     refine kW ?_
     refine AK.ret ⟨_, rfl, ?_⟩
     rw [← hR]
     have e1 := rowsV_snoc out v
     rw [cellsV_eq] at e1
     show _ = AV.tup [.agg [_, _, _, _, .lst .any 6 (rowsV (out ++ [v])), _], _, _]
     rw [e1]
     rfl
    ·have hc : c ≠ 93 := by simpa [head1] using hb
     rw [if_neg hc] at hR
     refine kW ?_
     refine kQ [.v (.bool (c == 44))] ?_
     by_cases h44 : c = 44
     ·rw [if_pos h44] at hR
      refine kW ?_
      refine kC (fun hb => ?_) fun hb => ?_
      ·simp [h44] at hb
      ·refine kW ?_
       refine kP [] ?_ ?_
       ·((repeat' apply And.intro) <;> first | exact kD | (intro hgd; refine ⟨?_, kG⟩; (repeat' apply And.intro) <;> first | exact kD | skip) | skip)
        all_goals (rw [hsz]; omega)
       refine kW ?_
       rw [ext1]
       refine AK.lp ⟨(_, out ++ [v], u, m), ⟨hR, by dsimp only; omega, by dsimp only; omega, by dsimp only; omega, hrd.snoc hok.ord hok.sb⟩, (Weak.intro ⟨kI, kI, kI, kI, kI, trivial⟩ ⟨kJ, ⟨_, rfl, .refl _, .refl _, .refl _, .refl _, ?_, .refl _, trivial⟩, trivial⟩ rfl rfl), by dsimp only; omega⟩
       rw [rowsV_snoc, cellsV_eq]
       exact .refl _
     ·rw [if_neg h44] at hR
      refine kW ?_
      refine kC (fun hb => ?_) fun hb => ?_
      ·refine kW ?_
       refine AK.ret ⟨_, rfl, ?_⟩
       rw [← hR]
       rfl
      ·simp [h44] at hb
theorem cpIn_a (s p : ByteArray) : AC Tryz.prog 222 [.str s, .str p] (.tup [.str (cutS s p), .bool (hasB s p)]) := by
 have h := hasIn_a s p
 refine kE Tryz.func222 a_stringslite_CutPrefix_ok a_stringslite_CutPrefix_cb fun E hE => ?_
 refine kW ?_
 refine kQ [.v (.bool (hasB s p))] ?_
 refine kW ?_
 refine kC (fun hb => ?_) fun hb => ?_
 ·have hq : hasB s p = false := by simpa using hb
  refine kW ?_
  refine AK.ret ⟨_, rfl, ?_⟩
  rw [cutS, if_neg (by rw [hq]; simp), hq]
  rfl
 ·have hq : hasB s p = true := by simpa using hb
  have hle : p.size ≤ s.size := by
   rw [hasB, Bool.and_eq_true, decide_eq_true_eq] at hq
   exact hq.1
  refine kW ?_
  refine kQ [] ?_
  refine kW ?_
  refine AK.ret ⟨_, rfl, ?_⟩
  rw [cutS, if_pos hq, hq]
  rfl
theorem cp_a (s p : ByteArray) : AC Tryz.prog 207 [.str s, .str p] (.tup [.str (cutS s p), .bool (hasB s p)]) := by
 have h := cpIn_a s p
 refine kE Tryz.func207 a_strings_CutPrefix_ok a_strings_CutPrefix_cb fun E hE => ?_
 refine kW ?_
 refine kQ [.v (.tup [.str (cutS s p), .bool (hasB s p)])] ?_
 refine kW ?_
 refine AK.ret ⟨_, rfl, ?_⟩
 rfl
theorem cutS_cons (c : UInt8) (l : Bs) (h : head1 c l = true) : ∃ u, l = c :: u ∧ cutS (toB l) ⟨#[c]⟩ = toB u := by
 cases l with
 | nil => cases h
 | cons d u =>
  have hd : d = c := by simpa [head1] using h
  subst hd
  refine ⟨u, rfl, ?_⟩
  rw [cutS, if_pos (by rw [has1_toB]; simp)]
  exact toB_from (d :: u) 1
theorem contains1 (l : Bs) (c : UInt8) (hl : l.length ≤ 1000000) : AC Tryz.prog 52 [.str (toB l), .str ⟨#[c]⟩] (.bool (l.contains c)) := by
 have h : AC Tryz.prog 52 [.str (toB l), .str ⟨#[c]⟩] (.bool (decide (0 ≤ Lib.indexByte l c))) := AC.of2 (by kernel_rfl) (fun _ => Rel1.bool _) fun w _ => Tryz.strings_Contains_one (toB l) c w
 rw [ix_mem] at h
 exact h
theorem cut1_a (l : Bs) (hl : l.length ≤ 1000000) : AC Tryz.prog 206 [.str (toB l), .str ⟨#[58]⟩] (if Lib.indexByte l 58 = -1 then .tup [.str (toB l), .str (toB []), .bool false] else .tup [.str (toB (l.take (Lib.indexByte l 58).toNat)), .str (toB (l.drop ((Lib.indexByte l 58).toNat + 1))), .bool true]) := by
 have h := cut_a (toB l) 58 (by rw [toB_size]; omega)
 rw [cutB, toB_list] at h
 rcases ixT_cases l 58 with ⟨h1, _⟩ | ⟨i, h1, h2, _⟩
 ·rw [h1] at h ⊢
  rw [if_pos rfl] at h ⊢
  exact h
 ·rw [h1] at h ⊢
  rw [if_neg (by omega)] at h ⊢
  simp only [Int.toNat_natCast] at h ⊢
  rw [toB_to l i (by omega), toB_from] at h
  exact h
def bracK (m : Nat) (out : List (ByteArray × V)) : Bs × Bs × Int → V × Bs × Int
 | (key, rest, k) => if k ≠ 0 then (V.null, [], k) else if (mfind (toB key) out).isSome = true then (V.null, [], 13) else match flowF m (.one [44, 125]) rest with
  | (v, more, e) => if e ≠ 0 then (V.null, [], e) else match more with
   | [] => (V.null, [], 10)
   | c :: u => if c = 125 then (vMap (minsert (toB key) v out), tl u, 0) else if c = 44 then flowF m (.braces (minsert (toB key) v out)) u else (V.null, [], 10)
theorem braces_a {N : Nat} (hP : OneOk N) (hN : N ≤ 1000000) (n : Nat) (t : Bs) (ht : t.length ≤ N) (hn : 2 * t.length + 2 ≤ n) : AC Tryz.prog 179 [.str (toB t)] (fA (bracI n t)) := by
 have hmm := treeMap_a [] (by simp [sizeM])
 have htl := tl_a t
 have htz := tl_len t
 have hp := has1_h (tl t) 125
 unfold bracI
 refine kE Tryz.func179 a_yaml_braces_ok a_yaml_braces_cb fun E hE => ?_
 refine kW ?_
 refine kQ [.v ((vA ((vMap []))))] ?_
 refine kW ?_
 refine kQ [.v (.str (toB (tl t)))] ?_
 refine kW ?_
 generalize tl t = s0 at *
 refine kQ [.v (.bool (head1 125 s0))] ?_
 refine kC (fun hb => ?_) fun hb => ?_
 ·cases s0 with
  | nil => cases hb
  | cons d u =>
   have hd : d = 125 := by simpa [head1] using hb
   subst hd
   rw [bracJ, if_pos rfl]
   have h2 := tl_a u
   have hsz : (toB ((125 : UInt8) :: u)).size = u.length + 1 := rfl
   refine kW ?_
   refine kP [.v (.str (toB (tl u)))] ?_ ?_
   ·((repeat' apply And.intro) <;> first | exact kD | (intro hgd; refine ⟨?_, kG⟩; (repeat' apply And.intro) <;> first | exact kD | skip) | skip)
    all_goals first | (rw [hsz]; omega) | (rw [ext1]; exact h2) | skip
   refine kW ?_
   refine AK.ret ⟨_, rfl, ?_⟩
   rfl
 ·have hR : bracJ n s0 = flowF n (.braces []) s0 := by
   cases s0 with
   | nil => rfl
   | cons d u => exact if_neg (by simpa [head1] using hb)
  rw [hR]
  clear hR hb hp htl
  generalize hRR : flowF n (.braces []) s0 = R
  refine kW ?_
  refine AK.loopI (fun i : List (ByteArray × V) × Bs × Nat => (frOf [(0, .str (toB i.2.1)), (2, .ptr 2 0), (3, .str ⟨#[]⟩), (4, .int .i64 0), (5, .ptr 5 0)], ⟨boxOf [(2, [.int .i64 0, .bool false, .int .i64 0, .str ⟨#[]⟩, .lst .nil 6 [], .lst .nil 7 []], false), (5, (vC ((vMap i.1))), false)], fun _ => 0⟩))
   (fun i => flowF i.2.2 (.braces i.1) i.2.1 = R ∧ i.2.1.length ≤ N ∧ 2 * i.2.1.length + 2 ≤ i.2.2 ∧ sizeM i.1 + i.2.1.length ≤ N ∧ RdM i.1) (fun i => i.2.1.length) ([], s0, n) ⟨hRR, by dsimp only; omega, by dsimp only; omega, by dsimp only [sizeM]; omega, List.Pairwise.nil, fun x hx => by cases hx⟩
   (Weak.intro ⟨kI, kI, kI, kI, kI, trivial⟩ ⟨kJ, kJ, trivial⟩ rfl rfl) fun ⟨out, s, m⟩ ⟨hR, hs, hm, hz, hrd⟩ => ?_
  dsimp only at hR hs hm hz hrd
  obtain ⟨m, rfl⟩ : ∃ k, m = k + 1 := ⟨m - 1, by omega⟩
  have htl := tl_a s
  have htz2 := tl_len s
  have hunf : flowF (m + 1) (.braces out) s = bracK m out (keyF (tl s)) := rfl
  rw [hunf] at hR
  clear hunf
  refine kW ?_
  refine kQ [.v (.str (toB (tl s)))] ?_
  refine kW ?_
  generalize tl s = s1 at *
  have hs1 : s1.length ≤ 1000000 := by omega
  have hct := cut1_a s1 hs1
  have hu := unquote_a (toB s1) (by rw [toB_size]; omega)
  rw [unq_eq, toB_list] at hu
  have hq := quoted_b s1
  obtain ⟨a, b, ok, hab, hct⟩ : ∃ a b ok, (if Lib.indexByte s1 58 = -1 then AV.tup [.str (toB s1), .str (toB []), .bool false] else .tup [.str (toB (s1.take (Lib.indexByte s1 58).toNat)), .str (toB (s1.drop ((Lib.indexByte s1 58).toNat + 1))), .bool true]) = .tup [.str (toB a), .str (toB b), .bool ok] ∧ (a.length ≤ s1.length ∧ AC Tryz.prog 206 [.str (toB s1), .str ⟨#[58]⟩] (.tup [.str (toB a), .str (toB b), .bool ok])) := by
   split
   ·rename_i hi; rw [if_pos hi] at hct; exact ⟨_, _, _, rfl, Nat.le_refl _, hct⟩
   ·rename_i hi; rw [if_neg hi] at hct; exact ⟨_, _, _, rfl, by rw [List.length_take]; omega, hct⟩
  obtain ⟨hal, hct⟩ := hct
  have htr := tr_a a (by omega)
  have hod := odd_a (tr a)
  have htrz := tr_len a
  have hc1 := contains1 (tr a) 44 (by omega)
  have hc2 := contains1 (tr a) 93 (by omega)
  have hc3 := contains1 (tr a) 125 (by omega)
  refine kQ [.v (.tup [.str (toB a), .str (toB b), .bool ok])] ?_
  refine kW ?_
  refine kQ [.v (.str (toB (tr a)))] ?_
  refine kW ?_
  refine kP [] ?_ ?_
  ·((repeat' apply And.intro) <;> first | exact kD | (intro hgd; refine ⟨?_, kG⟩; (repeat' apply And.intro) <;> first | exact kD | skip) | skip)
   all_goals
    cases s1 with
    | nil => simp [gd, ne_toB] at hgd
    | cons c l => rw [toB_size, List.length_cons]; omega
  refine kC (fun hb => ?_) fun hb => ?_
  ·rw [hq] at hb
   have hqt := hb
   refine kW ?_
   cases hx : unqL s1 with
   | none =>
    have hkf : keyF s1 = ([], [], 11) := by rw [keyF, if_pos hqt, hx]
    rw [hkf, bracK, if_pos (by decide)] at hR
    rw [hx] at hu
    simp only [qA] at hu
    refine kQ [.v (.tup [.str ⟨#[]⟩, .str ⟨#[]⟩, .int .i64 11])] ?_
    refine kW ?_
    refine kC (fun hb => ?_) fun hb => ?_
    ·refine kW ?_
     refine AK.ret ⟨_, rfl, ?_⟩
     rw [← hR]
     rfl
    ·simp at hb
   | some p =>
    obtain ⟨key, rest⟩ := p
    rw [hx] at hu
    simp only [qA] at hu
    have hz2 := unq_len hx
    have hcp := cp_a (toB rest) ⟨#[58]⟩
    refine kQ [.v (.tup [.str ⟨key.toArray⟩, .str ⟨rest.toArray⟩, .int .i64 0])] ?_
    refine kW ?_
    refine kC (fun hb => ?_) fun hb => ?_
    ·simp at hb
    ·refine kW ?_
     cases hh : head1 58 rest with
     | false =>
      have hh2 : hasB (toB rest) ⟨#[58]⟩ = false := by rw [has1_toB]; exact hh
      rw [hh2] at hcp
      have hkf : keyF s1 = ([], [], 10) := by
       rw [keyF, if_pos hqt, hx]
       cases rest with
       | nil => rfl
       | cons c r => simp [show ¬ c = 58 by simpa [head1] using hh]
      rw [hkf, bracK, if_pos (by decide)] at hR
      refine kQ [.v (.tup [.str (cutS (toB rest) ⟨#[58]⟩), .bool false])] ?_
      refine kW ?_
      refine kC (fun hb => ?_) fun hb => ?_
      ·refine kW ?_
       refine AK.ret ⟨_, rfl, ?_⟩
       rw [← hR]
       rfl
      ·simp at hb
     | true =>
      obtain ⟨u, rfl, hcu⟩ := cutS_cons 58 rest hh
      have hh2 : hasB (toB (58 :: u)) ⟨#[58]⟩ = true := by rw [has1_toB]; simp
      rw [hh2, hcu] at hcp
      simp only [List.length_cons] at hz2
      have hkf : keyF s1 = (key, u, 0) := by rw [keyF, if_pos hqt, hx]; simp
      rw [hkf, bracK, if_neg (by simp)] at hR
      refine kQ [.v (.tup [.str (toB u), .bool true])] ?_
      clear hcp hh hh2 hcu hu hct htr hod hc1 hc2 hc3 hq hkf hx hb
      generalize hrest : u = rest at *
      have hgt := treeGet_o (vMap out) (toB key) (vMap_ord hrd.1 fun p hp => (hrd.2 p hp).2.1) (by rw [vMap_size]; omega)
      refine kW ?_
      refine kC (fun hb => ?_) fun hb => ?_
      ·simp at hb
      ·refine kW ?_
       refine kQ [.v (.tup [(vA (((mfind (toB key) out).getD V.null))), .bool (mfind (toB key) out).isSome])] ?_
       refine kW ?_
       refine kC (fun hb => ?_) fun hb => ?_
       ·rw [if_pos hb] at hR
        refine kW ?_
        refine AK.ret ⟨_, rfl, ?_⟩
        rw [← hR]
        rfl
       ·rw [if_neg (by rw [hb]; simp)] at hR
        have hone := hP m [44, 125] rest (by omega) (by omega)
        have hok := flow_ok m (.one [44, 125]) rest (by omega) (by simp only [FMsz]; omega) trivial
        generalize flowF m (.one [44, 125]) rest = q at *
        obtain ⟨v, more, e⟩ := q
        dsimp only at hR
        refine kW ?_
        refine kQ [.v (fA (v, more, e))] ?_
        refine kW ?_
        refine kC (fun hb => ?_) fun hb => ?_
        ·have he : e ≠ 0 := by simpa using hb
         rw [if_pos he] at hR
         refine kW ?_
         refine AK.ret ⟨_, rfl, ?_⟩
         rw [← hR]
         rfl
        ·have he : e = 0 := by simpa using hb
         subst he
         rw [if_neg (by simp)] at hR
         have hf := hok.fit rfl
         simp only [FMsz] at hf
         have hv1 := v.size_pos
         have hp1 := has1_h more 125
         have hp2 := has1_h more 44
         have hpt := treePut_o (vMap out) (toB key) v (vMap_ord hrd.1 fun p hp => (hrd.2 p hp).2.1) (by rw [vMap_size]; omega)
         have hms := minsert_le (toB key) v out
         have hrd2 := hrd.put (k := toB key) (x := v) (by rw [toB_size]; omega) hok.ord hok.sb
         refine kW ?_
         refine kQ [.v ((vA ((vMap (minsert (toB key) v out)))))] ?_
         refine kW ?_
         refine kQ [.v (.bool (head1 125 more))] ?_
         cases more with
         | nil =>
          refine kC (fun hb => ?_) fun hb => ?_
          ·cases hb
          ·refine kW ?_
           refine kQ [.v (.bool false)] ?_
           refine kW ?_
           refine kC (fun hb => ?_) fun hb => ?_
           ·refine kW ?_
            refine AK.ret ⟨_, rfl, ?_⟩
            rw [← hR]
            rfl
           ·simp at hb
         | cons c u =>
          have hsz : (toB (c :: u)).size = u.length + 1 := rfl
          have h2 := tl_a u
          simp only [List.length_cons] at hf
          dsimp only at hR
          refine kC (fun hb => ?_) fun hb => ?_
          ·have hc : c = 125 := by simpa [head1] using hb
           rw [if_pos hc] at hR
           refine kW ?_
           refine kP [.v (.str (toB (tl u)))] ?_ ?_
           ·((repeat' apply And.intro) <;> first | exact kD | (intro hgd; refine ⟨?_, kG⟩; (repeat' apply And.intro) <;> first | exact kD | skip) | skip)
            all_goals first | (rw [hsz]; omega) | (rw [ext1]; exact h2) | skip
           refine kW ?_
           refine AK.ret ⟨_, rfl, ?_⟩
           rw [← hR]
           rfl
          ·have hc : c ≠ 125 := by simpa [head1] using hb
           rw [if_neg hc] at hR
           refine kW ?_
           refine kQ [.v (.bool (c == 44))] ?_
           by_cases h44 : c = 44
           ·rw [if_pos h44] at hR
            refine kW ?_
            refine kC (fun hb => ?_) fun hb => ?_
            ·simp [h44] at hb
            ·refine kW ?_
             refine kP [] ?_ ?_
             ·((repeat' apply And.intro) <;> first | exact kD | (intro hgd; refine ⟨?_, kG⟩; (repeat' apply And.intro) <;> first | exact kD | skip) | skip)
              all_goals (rw [hsz]; omega)
             refine kW ?_
             rw [ext1]
             exact AK.lp ⟨(minsert (toB key) v out, u, m), ⟨hR, by dsimp only; omega, by dsimp only; omega, by dsimp only; omega, hrd2⟩, (Weak.intro ⟨kI, kI, kI, kI, kI, trivial⟩ ⟨kJ, kJ, trivial⟩ rfl rfl), by dsimp only; omega⟩
           ·rw [if_neg h44] at hR
            refine kW ?_
            refine kC (fun hb => ?_) fun hb => ?_
            ·refine kW ?_
             refine AK.ret ⟨_, rfl, ?_⟩
             rw [← hR]
             rfl
            ·simp [h44] at hb
  ·rw [hq] at hb
   have hnq : ¬ quoted s1 = true := by rw [hb]; simp
   have hkf : keyF s1 = if Lib.indexByte s1 58 = -1 then ([], [], 10) else if ((tr (s1.take (Lib.indexByte s1 58).toNat)).isEmpty || oddL (tr (s1.take (Lib.indexByte s1 58).toNat)) || (tr (s1.take (Lib.indexByte s1 58).toNat)).contains 44 || (tr (s1.take (Lib.indexByte s1 58).toNat)).contains 93 || (tr (s1.take (Lib.indexByte s1 58).toNat)).contains 125) = true then ([], [], 10) else (tr (s1.take (Lib.indexByte s1 58).toNat), s1.drop ((Lib.indexByte s1 58).toNat + 1), 0) := by rw [keyF, if_neg hnq]
   have hkr := keyF_len (s := s1) (key := tr a) (rest := b)
   refine kW ?_
   refine kQ [.v (.bool (oddL (tr a))), .v (.bool ((tr a).contains 44)), .v (.bool ((tr a).contains 93)), .v (.bool ((tr a).contains 125))] ?_
   refine kC (fun hb => ?_) fun hb => ?_
   ·rw [ne_toB] at hb
    have hkf2 : keyF s1 = ([], [], 10) := by
     rw [hkf]
     split at hab
     ·rename_i hi; rw [if_pos hi]
     ·rename_i hi
      rw [if_neg hi]
      injection hab with hab
      injection hab with h1 hab
      injection h1 with h1
      have h1 := toB_inj.1 h1
      rw [h1, if_pos hb]
    rw [hkf2, bracK, if_pos (by decide)] at hR
    refine kW ?_
    refine kC (fun hb => ?_) fun hb => ?_
    ·refine kW ?_
     refine AK.ret ⟨_, rfl, ?_⟩
     rw [← hR]
     rfl
    ·simp at hb
   ·rw [ne_toB] at hb
    split at hab
    ·rename_i hi
     rw [if_pos hi] at hkf
     rw [hkf, bracK, if_pos (by decide)] at hR
     injection hab with hab
     injection hab with h1 hab
     injection hab with h2 hab
     injection hab with h3 hab
     injection h3 with h3
     subst h3
     refine kW ?_
     refine kC (fun hb => ?_) fun hb => ?_
     ·refine kW ?_
      refine AK.ret ⟨_, rfl, ?_⟩
      rw [← hR]
      rfl
     ·simp at hb
    ·rename_i hi
     rw [if_neg hi] at hkf
     injection hab with hab
     injection hab with h1 hab
     injection hab with h2 hab
     injection hab with h3 hab
     injection h1 with h1
     injection h2 with h2
     injection h3 with h3
     have h1 := toB_inj.1 h1
     have h2 := toB_inj.1 h2
     subst h3
     rw [h1, h2, if_neg (by rw [hb]; simp)] at hkf
     have hkl := hkr hkf
     rw [hkf, bracK, if_neg (by simp)] at hR
     clear hu hct htr hod hc1 hc2 hc3 hq hkf hkr hb h1 h2 hi
     generalize tr a = key at *
     generalize hrest : b = rest at *
     have hgt := treeGet_o (vMap out) (toB key) (vMap_ord hrd.1 fun p hp => (hrd.2 p hp).2.1) (by rw [vMap_size]; omega)
     refine kW ?_
     refine kC (fun hb => ?_) fun hb => ?_
     ·simp at hb
     ·refine kW ?_
      refine kQ [.v (.tup [(vA (((mfind (toB key) out).getD V.null))), .bool (mfind (toB key) out).isSome])] ?_
      refine kW ?_
      refine kC (fun hb => ?_) fun hb => ?_
      ·rw [if_pos hb] at hR
       refine kW ?_
       refine AK.ret ⟨_, rfl, ?_⟩
       rw [← hR]
       rfl
      ·rw [if_neg (by rw [hb]; simp)] at hR
       have hone := hP m [44, 125] rest (by omega) (by omega)
       have hok := flow_ok m (.one [44, 125]) rest (by omega) (by simp only [FMsz]; omega) trivial
       generalize flowF m (.one [44, 125]) rest = q at *
       obtain ⟨v, more, e⟩ := q
       dsimp only at hR
       refine kW ?_
       refine kQ [.v (fA (v, more, e))] ?_
       refine kW ?_
       refine kC (fun hb => ?_) fun hb => ?_
       ·have he : e ≠ 0 := by simpa using hb
        rw [if_pos he] at hR
        refine kW ?_
        refine AK.ret ⟨_, rfl, ?_⟩
        rw [← hR]
        rfl
       ·have he : e = 0 := by simpa using hb
        subst he
        rw [if_neg (by simp)] at hR
        have hf := hok.fit rfl
        simp only [FMsz] at hf
        have hv1 := v.size_pos
        have hp1 := has1_h more 125
        have hp2 := has1_h more 44
        have hpt := treePut_o (vMap out) (toB key) v (vMap_ord hrd.1 fun p hp => (hrd.2 p hp).2.1) (by rw [vMap_size]; omega)
        have hms := minsert_le (toB key) v out
        have hrd2 := hrd.put (k := toB key) (x := v) (by rw [toB_size]; omega) hok.ord hok.sb
        refine kW ?_
        refine kQ [.v ((vA ((vMap (minsert (toB key) v out)))))] ?_
        refine kW ?_
        refine kQ [.v (.bool (head1 125 more))] ?_
        cases more with
        | nil =>
         refine kC (fun hb => ?_) fun hb => ?_
         ·cases hb
         ·refine kW ?_
          refine kQ [.v (.bool false)] ?_
          refine kW ?_
          refine kC (fun hb => ?_) fun hb => ?_
          ·refine kW ?_
           refine AK.ret ⟨_, rfl, ?_⟩
           rw [← hR]
           rfl
          ·simp at hb
        | cons c u =>
         have hsz : (toB (c :: u)).size = u.length + 1 := rfl
         have h2 := tl_a u
         simp only [List.length_cons] at hf
         dsimp only at hR
         refine kC (fun hb => ?_) fun hb => ?_
         ·have hc : c = 125 := by simpa [head1] using hb
          rw [if_pos hc] at hR
          refine kW ?_
          refine kP [.v (.str (toB (tl u)))] ?_ ?_
          ·((repeat' apply And.intro) <;> first | exact kD | (intro hgd; refine ⟨?_, kG⟩; (repeat' apply And.intro) <;> first | exact kD | skip) | skip)
           all_goals first | (rw [hsz]; omega) | (rw [ext1]; exact h2) | skip
          refine kW ?_
          refine AK.ret ⟨_, rfl, ?_⟩
          rw [← hR]
          rfl
         ·have hc : c ≠ 125 := by simpa [head1] using hb
          rw [if_neg hc] at hR
          refine kW ?_
          refine kQ [.v (.bool (c == 44))] ?_
          by_cases h44 : c = 44
          ·rw [if_pos h44] at hR
           refine kW ?_
           refine kC (fun hb => ?_) fun hb => ?_
           ·simp [h44] at hb
           ·refine kW ?_
            refine kP [] ?_ ?_
            ·((repeat' apply And.intro) <;> first | exact kD | (intro hgd; refine ⟨?_, kG⟩; (repeat' apply And.intro) <;> first | exact kD | skip) | skip)
             all_goals (rw [hsz]; omega)
            refine kW ?_
            rw [ext1]
            exact AK.lp ⟨(minsert (toB key) v out, u, m), ⟨hR, by dsimp only; omega, by dsimp only; omega, by dsimp only; omega, hrd2⟩, (Weak.intro ⟨kI, kI, kI, kI, kI, trivial⟩ ⟨kJ, kJ, trivial⟩ rfl rfl), by dsimp only; omega⟩
          ·rw [if_neg h44] at hR
           refine kW ?_
           refine kC (fun hb => ?_) fun hb => ?_
           ·refine kW ?_
            refine AK.ret ⟨_, rfl, ?_⟩
            rw [← hR]
            rfl
           ·simp [h44] at hb
def oneK (m : Nat) (ends : Bs) : Bs → V × Bs × Int
 | [] => (V.null, [], 10)
 | c :: t => if c = 91 then flowI m t else if c = 123 then bracI m t else if isQ c = true then (match unqL (c :: t) with
   | none => (V.str ⟨#[]⟩, [], 11)
   | some (x, rest) => (V.str (toB x), tl rest, 0))
  else if badWord (tr ((c :: t).take (endAt ends (c :: t)))) = true then (V.null, [], 10)
  else ((scalP (toB (tr ((c :: t).take (endAt ends (c :: t)))))).1, (c :: t).drop (endAt ends (c :: t)), (scalP (toB (tr ((c :: t).take (endAt ends (c :: t)))))).2)
theorem oneK_eq (m : Nat) (ends s : Bs) : flowF (m + 1) (.one ends) s = oneK m ends (tl s) := by
 rw [flowF]
 generalize tl s = s1
 cases s1 with
 | nil => rfl
 | cons c t =>
  simp only [oneK, flowI, bracI]
  split
  ·generalize tl t = u
   cases u <;> rfl
  ·split
   ·generalize tl t = u
    cases u <;> rfl
   ·rfl
theorem tw_len (p : UInt8 → Bool) : ∀ (l : Bs) (i : Nat), i ≤ l.length → (∀ j c, j < i → l[j]? = some c → p c = true) → (∀ c, l[i]? = some c → p c = false) → (l.takeWhile p).length = i
 | [], i, h, _, _ => by simp at h; subst h; rfl
 | d :: l, 0, _, _, h2 => by rw [List.takeWhile_cons, if_neg (by rw [h2 d rfl]; simp)]; rfl
 | d :: l, i + 1, h, h1, h2 => by
  rw [List.takeWhile_cons, if_pos (h1 0 d (by omega) rfl), List.length_cons, tw_len p l i (by simpa using h) (fun j c hj hc => h1 (j + 1) c (by omega) (by simpa using hc)) (fun c hc => h2 c (by simpa using hc))]
theorem one_step (s ends : Bs) (n : Nat) (hs : s.length ≤ 1000000) (hn : 2 * s.length + 1 ≤ n) (hF : ∀ n t, t.length < s.length → 2 * t.length + 2 ≤ n → AC Tryz.prog 178 [.str (toB t)] (fA (flowI n t)))
  (hB : ∀ n t, t.length < s.length → 2 * t.length + 2 ≤ n → AC Tryz.prog 179 [.str (toB t)] (fA (bracI n t))) : AC Tryz.prog 139 [.str (toB s), .str (toB ends)] (fA (flowF n (.one ends) s)) := by
 obtain ⟨m, rfl⟩ : ∃ k, n = k + 1 := ⟨n - 1, by omega⟩
 rw [oneK_eq]
 have htl := tl_a s
 have htz := tl_len s
 refine kE Tryz.func139 a_yaml_one_ok a_yaml_one_cb fun E hE => ?_
 refine kW ?_
 refine kQ [.v (.str (toB (tl s)))] ?_
 refine kW ?_
 generalize tl s = s1 at *
 have hs1 : s1.length ≤ 1000000 := by omega
 generalize hR : oneK m ends s1 = R
 have hp1 := has1_h s1 91
 have hp2 := has1_h s1 123
 refine kQ [.v (.bool (head1 91 s1))] ?_
 refine kW ?_
 refine kC (fun hb => ?_) fun hb => ?_
 ·cases s1 with
  | nil => cases hb
  | cons c t =>
   have hc : c = 91 := by simpa [head1] using hb
   simp only [List.length_cons] at htz
   rw [oneK, if_pos hc] at hR
   have hf := hF m t (by omega) (by omega)
   have hsz : (toB (c :: t)).size = t.length + 1 := rfl
   refine kW ?_
   refine kP [.v (fA (flowI m t))] ?_ ?_
   ·((repeat' apply And.intro) <;> first | exact kD | (intro hgd; refine ⟨?_, kG⟩; (repeat' apply And.intro) <;> first | exact kD | skip) | skip)
    all_goals first | (rw [hsz]; omega) | (rw [ext1]; exact hf) | skip
   refine kW ?_
   refine AK.ret ⟨_, rfl, ?_⟩
   rw [← hR]
   rfl
 ·have hb1 := hb
  refine kW ?_
  refine kQ [.v (.bool (head1 123 s1))] ?_
  refine kW ?_
  refine kC (fun hb => ?_) fun hb => ?_
  ·cases s1 with
   | nil => cases hb
   | cons c t =>
    have hc : c = 123 := by simpa [head1] using hb
    have hc1 : ¬ c = 91 := by simpa [head1] using hb1
    simp only [List.length_cons] at htz
    rw [oneK, if_neg hc1, if_pos hc] at hR
    have hf := hB m t (by omega) (by omega)
    have hsz : (toB (c :: t)).size = t.length + 1 := rfl
    refine kW ?_
    refine kP [.v (fA (bracI m t))] ?_ ?_
    ·((repeat' apply And.intro) <;> first | exact kD | (intro hgd; refine ⟨?_, kG⟩; (repeat' apply And.intro) <;> first | exact kD | skip) | skip)
     all_goals first | (rw [hsz]; omega) | (rw [ext1]; exact hf) | skip
    refine kW ?_
    refine AK.ret ⟨_, rfl, ?_⟩
    rw [← hR]
    rfl
  ·have hb2 := hb
   have hq := quoted_b s1
   have hu := unquote_a (toB s1) (by rw [toB_size]; omega)
   rw [unq_eq, toB_list] at hu
   refine kW ?_
   refine kP [] ?_ ?_
   ·((repeat' apply And.intro) <;> first | exact kD | (intro hgd; refine ⟨?_, kG⟩; (repeat' apply And.intro) <;> first | exact kD | skip) | skip)
    all_goals
     cases s1 with
     | nil => simp [gd, ne_toB] at hgd
     | cons c l => rw [toB_size, List.length_cons]; omega
   refine kC (fun hb => ?_) fun hb => ?_
   ·rw [hq] at hb
    cases s1 with
    | nil => cases hb
    | cons c t =>
     have hc1 : ¬ c = 91 := by simpa [head1] using hb1
     have hc2 : ¬ c = 123 := by simpa [head1] using hb2
     have hqc : isQ c = true := hb
     rw [oneK, if_neg hc1, if_neg hc2, if_pos hqc] at hR
     refine kW ?_
     cases hx : unqL (c :: t) with
     | none =>
      rw [hx] at hu hR
      simp only [qA] at hu
      dsimp only at hR
      have h1 := treeStr_a ⟨#[]⟩
      have h2 := tl_a []
      refine kQ [.v (.tup [.str ⟨#[]⟩, .str ⟨#[]⟩, .int .i64 11])] ?_
      refine kW ?_
      refine kQ [.v ((vA ((V.str ⟨#[]⟩)))), .v (.str (toB (tl [])))] ?_
      refine kW ?_
      refine AK.ret ⟨_, rfl, ?_⟩
      rw [← hR]
      rfl
     | some p =>
      obtain ⟨x, rest⟩ := p
      rw [hx] at hu hR
      simp only [qA] at hu
      dsimp only at hR
      have h1 := treeStr_a (toB x)
      have h2 := tl_a rest
      refine kQ [.v (.tup [.str ⟨x.toArray⟩, .str ⟨rest.toArray⟩, .int .i64 0])] ?_
      refine kW ?_
      refine kQ [.v ((vA ((V.str (toB x))))), .v (.str (toB (tl rest)))] ?_
      refine kW ?_
      refine AK.ret ⟨_, rfl, ?_⟩
      rw [← hR]
      rfl
   ·rw [hq] at hb
    have hR2 : (if badWord (tr (s1.take (endAt ends s1))) = true then (V.null, [], (10 : Int)) else ((scalP (toB (tr (s1.take (endAt ends s1))))).1, s1.drop (endAt ends s1), (scalP (toB (tr (s1.take (endAt ends s1))))).2)) = R := by
     rw [← hR]
     cases s1 with
     | nil =>
      have h0 : endAt ends [] = 0 := by unfold endAt; split <;> rfl
      rw [h0, if_pos (by rfl)]
      rfl
     | cons c t =>
      have hc1 : ¬ c = 91 := by simpa [head1] using hb1
      have hc2 : ¬ c = 123 := by simpa [head1] using hb2
      have hqc : ¬ isQ c = true := by rw [show isQ c = false from hb]; simp
      rw [oneK, if_neg hc1, if_neg hc2, if_neg hqc]
    clear hR hb hq hu hb1 hb2 hp1 hp2 htl hF hB
    have hR := hR2
    clear hR2
    have hne := ne_toB ends
    refine kW ?_
    refine kC (fun hb => ?_) fun hb => ?_
    ·rw [hne] at hb
     have hends : ends ≠ [] := by intro h; subst h; simp at hb
     have hE : endAt ends s1 = (s1.takeWhile fun c => !ends.contains c).length := by rw [endAt, if_neg hends]
     rw [hE] at hR
     refine kW ?_
     refine AK.loopI (fun i : Nat => (frOf [(0, .str (toB s1)), (1, .str (toB ends)), (4, .ptr 4 0), (5, .str ⟨#[]⟩), (6, .int .i64 0), (10, .int .i64 i)], ⟨boxOf [(4, [.int .i64 0, .bool false, .int .i64 0, .str ⟨#[]⟩, .lst .nil 6 [], .lst .nil 7 []], false)], fun _ => 0⟩)) (fun i => i ≤ s1.length ∧ ∀ j c, j < i → s1[j]? = some c → (!ends.contains c) = true) (fun i => s1.length - i) 0 ⟨by omega, fun j c hj => by omega⟩ (Weak.intro ⟨kI, kI, kI, kI, kI, kI, trivial⟩ ⟨kJ, trivial⟩ rfl rfl) fun i ⟨hi, hall⟩ => ?_
     refine kW ?_
     by_cases hlt : i < s1.length
     ·obtain ⟨c, hc⟩ : ∃ c, s1[i]? = some c := ⟨_, List.getElem?_eq_getElem hlt⟩
      have hat : (toB s1).data.getD (i : Int).toNat 0 = c := toB_at (by simpa using hc)
      have hix := ixB_a ends c
      have him := ix_mem ends c
      refine kP [.v (.int .i64 (Lib.indexByte ends c))] ?_ ?_
      ·((repeat' apply And.intro) <;> first | exact kD | (intro hgd; refine ⟨?_, kG⟩; (repeat' apply And.intro) <;> first | exact kD | skip) | skip)
       all_goals first | (rw [toB_size]; omega) | (rw [hat]; exact hix) | skip
      have hz : decide ((i : Int) < (toB s1).size) = true := by rw [toB_size]; simpa using hlt
      rw [hz]
      cases hcon : ends.contains c with
      | true =>
       rw [hcon] at him
       have h0 : 0 ≤ Lib.indexByte ends c := by simpa using him
       refine kC (fun hb => ?_) fun hb => ?_
       ·exfalso
        have : Lib.indexByte ends c < 0 := by simpa using hb
        omega
       ·have he := tw_len (fun c => !ends.contains c) s1 i hi hall (fun d hd => by rw [hc] at hd; cases hd; rw [hcon]; rfl)
        rw [he] at hR
        refine AK.exit rfl ?_
        have hwl := tr_len (s1.take i)
        have hwz : (tr (s1.take i)).length ≤ 1000000 := by rw [List.length_take] at hwl; omega
        have htr := tr_a (s1.take i) (by rw [List.length_take]; omega)
        have hod := odd_a (tr (s1.take i))
        have hco := contains_a (tr (s1.take i)) [58, 32] hwz
        have hsu := suff_a (tr (s1.take i)) [58] hwz
        have hsc := scal_a (toB (tr (s1.take i))) (by rw [toB_size]; omega)
        have hne2 := ne_toB (tr (s1.take i))
        refine kW ?_
        refine kP [.v (.str (toB (tr (s1.take i))))] ?_ ?_
        ·((repeat' apply And.intro) <;> first | exact kD | (intro hgd; refine ⟨?_, kG⟩; (repeat' apply And.intro) <;> first | exact kD | skip) | skip)
         all_goals first | (rw [toB_size]; omega) | (rw [toB_toI _ _ (by omega)]; exact htr) | skip
        refine kW ?_
        generalize hw : tr (s1.take i) = w at *
        refine kQ [.v (.bool (oddL w)), .v (.bool (Lib.contains w [58, 32])), .v (.bool (Lib.hasSuffix w [58]))] ?_
        refine kC (fun hb => ?_) fun hb => ?_
        ·rw [hne2] at hb
         rw [if_pos (show badWord w = true from hb)] at hR
         refine kW ?_
         refine AK.ret ⟨_, rfl, ?_⟩
         rw [← hR]
         rfl
        ·rw [hne2] at hb
         rw [if_neg (show ¬ badWord w = true by rw [show badWord w = false from hb]; simp)] at hR
         refine kW ?_
         refine kQ [.v (.tup [(vA ((scalP (toB w)).1)), .int .i64 (scalP (toB w)).2])] ?_
         refine kW ?_
         refine kP [] ?_ ?_
         ·((repeat' apply And.intro) <;> first | exact kD | (intro hgd; refine ⟨?_, kG⟩; (repeat' apply And.intro) <;> first | exact kD | skip) | skip)
          all_goals (rw [toB_size]; omega)
         refine kW ?_
         refine AK.ret ⟨_, rfl, ?_⟩
         rw [toB_fromI, ← hR]
         rfl
      | false =>
       rw [hcon] at him
       have h0 : Lib.indexByte ends c < 0 := by simpa using him
       refine kC (fun hb => ?_) fun hb => ?_
       ·refine kW ?_
        exact AK.lp ⟨i + 1, ⟨by omega, fun j d hj hd => by
         by_cases e : j = i
         ·subst e; rw [hc] at hd; cases hd; rw [hcon]; rfl
         ·exact hall j d (by omega) hd⟩, (Weak.intro ⟨kI, kI, kI, kI, kI, kU, trivial⟩ ⟨kJ, trivial⟩ rfl rfl), by omega⟩
       ·exfalso
        have : ¬ Lib.indexByte ends c < 0 := by simpa using hb
        omega
     ·have hz : decide ((i : Int) < (toB s1).size) = false := by rw [toB_size]; simpa using hlt
      refine kP [.v (.int .i64 0)] ?_ ?_
      ·((repeat' apply And.intro) <;> first | exact kD | (intro hgd; refine ⟨?_, kG⟩; (repeat' apply And.intro) <;> first | exact kD | skip) | skip)
       all_goals (exfalso; rw [hz] at hgd; simp [gd] at hgd)
      rw [hz]
      refine kC (fun hb => ?_) fun hb => ?_
      ·cases hb
      ·have he := tw_len (fun c => !ends.contains c) s1 i hi hall (fun d hd => by have := (List.getElem?_eq_some_iff.1 hd).1; omega)
       rw [he] at hR
       refine AK.exit rfl ?_
       have hwl := tr_len (s1.take i)
       have hwz : (tr (s1.take i)).length ≤ 1000000 := by rw [List.length_take] at hwl; omega
       have htr := tr_a (s1.take i) (by rw [List.length_take]; omega)
       have hod := odd_a (tr (s1.take i))
       have hco := contains_a (tr (s1.take i)) [58, 32] hwz
       have hsu := suff_a (tr (s1.take i)) [58] hwz
       have hsc := scal_a (toB (tr (s1.take i))) (by rw [toB_size]; omega)
       have hne2 := ne_toB (tr (s1.take i))
       refine kW ?_
       refine kP [.v (.str (toB (tr (s1.take i))))] ?_ ?_
       ·((repeat' apply And.intro) <;> first | exact kD | (intro hgd; refine ⟨?_, kG⟩; (repeat' apply And.intro) <;> first | exact kD | skip) | skip)
        all_goals first | (rw [toB_size]; omega) | (rw [toB_toI _ _ (by omega)]; exact htr) | skip
       refine kW ?_
       generalize hw : tr (s1.take i) = w at *
       refine kQ [.v (.bool (oddL w)), .v (.bool (Lib.contains w [58, 32])), .v (.bool (Lib.hasSuffix w [58]))] ?_
       refine kC (fun hb => ?_) fun hb => ?_
       ·rw [hne2] at hb
        rw [if_pos (show badWord w = true from hb)] at hR
        refine kW ?_
        refine AK.ret ⟨_, rfl, ?_⟩
        rw [← hR]
        rfl
       ·rw [hne2] at hb
        rw [if_neg (show ¬ badWord w = true by rw [show badWord w = false from hb]; simp)] at hR
        refine kW ?_
        refine kQ [.v (.tup [(vA ((scalP (toB w)).1)), .int .i64 (scalP (toB w)).2])] ?_
        refine kW ?_
        refine kP [] ?_ ?_
        ·((repeat' apply And.intro) <;> first | exact kD | (intro hgd; refine ⟨?_, kG⟩; (repeat' apply And.intro) <;> first | exact kD | skip) | skip)
         all_goals (rw [toB_size]; omega)
        refine kW ?_
        refine AK.ret ⟨_, rfl, ?_⟩
        rw [toB_fromI, ← hR]
        rfl
    ·rw [hne] at hb
     have hends : ends = [] := by simpa [List.isEmpty_iff] using hb
     have hE : endAt ends s1 = s1.length := by rw [endAt, if_pos hends]
     rw [hE] at hR
     have hszz : ((toB s1).size : Int) = (s1.length : Int) := rfl
     rw [hszz]
     have hwl := tr_len (s1.take (s1.length))
     have hwz : (tr (s1.take (s1.length))).length ≤ 1000000 := by rw [List.length_take] at hwl; omega
     have htr := tr_a (s1.take (s1.length)) (by rw [List.length_take]; omega)
     have hod := odd_a (tr (s1.take (s1.length)))
     have hco := contains_a (tr (s1.take (s1.length))) [58, 32] hwz
     have hsu := suff_a (tr (s1.take (s1.length))) [58] hwz
     have hsc := scal_a (toB (tr (s1.take (s1.length)))) (by rw [toB_size]; omega)
     have hne2 := ne_toB (tr (s1.take (s1.length)))
     refine kW ?_
     refine kP [.v (.str (toB (tr (s1.take (s1.length)))))] ?_ ?_
     ·((repeat' apply And.intro) <;> first | exact kD | (intro hgd; refine ⟨?_, kG⟩; (repeat' apply And.intro) <;> first | exact kD | skip) | skip)
      all_goals first | (rw [toB_size]; omega) | (rw [toB_toI _ _ (by omega)]; exact htr) | skip
     refine kW ?_
     generalize hw : tr (s1.take (s1.length)) = w at *
     refine kQ [.v (.bool (oddL w)), .v (.bool (Lib.contains w [58, 32])), .v (.bool (Lib.hasSuffix w [58]))] ?_
     refine kC (fun hb => ?_) fun hb => ?_
     ·rw [hne2] at hb
      rw [if_pos (show badWord w = true from hb)] at hR
      refine kW ?_
      refine AK.ret ⟨_, rfl, ?_⟩
      rw [← hR]
      rfl
     ·rw [hne2] at hb
      rw [if_neg (show ¬ badWord w = true by rw [show badWord w = false from hb]; simp)] at hR
      refine kW ?_
      refine kQ [.v (.tup [(vA ((scalP (toB w)).1)), .int .i64 (scalP (toB w)).2])] ?_
      refine kW ?_
      refine kP [] ?_ ?_
      ·((repeat' apply And.intro) <;> first | exact kD | (intro hgd; refine ⟨?_, kG⟩; (repeat' apply And.intro) <;> first | exact kD | skip) | skip)
       all_goals (rw [toB_size]; omega)
      refine kW ?_
      refine AK.ret ⟨_, rfl, ?_⟩
      rw [toB_fromI, ← hR]
      rfl
theorem one_ok : ∀ N, N ≤ 1000000 → OneOk N
 | 0, _ => fun n ends s hs hn => one_step s ends n (by omega) hn (fun n t ht => by omega) (fun n t ht => by omega)
 | N + 1, hN => fun n ends s hs hn => one_step s ends n (by omega) hn (fun n t ht hn => flow_a (one_ok N (by omega)) (by omega) n t (by omega) hn) (fun n t ht hn => braces_a (one_ok N (by omega)) (by omega) n t (by omega) hn)
theorem refSize_a (n : Nat) : ∀ v : V, v.size ≤ n → v.size ≤ 2000000000000 → AC Tryz.prog 145 [(vA (v))] (.int .i64 v.size) := by
 induction n with
 | zero => intro v h; have := v.size_pos; omega
 | succ n ih =>
  intro v hn hsz
  have hve := v.size_eq
  have hll := len_le_sizeL v.l
  have hlm := len_le_sizeM v.m
  refine kE Tryz.func145 a_ref01_Size_ok a_ref01_Size_cb fun E hE => ?_
  refine kW ?_
  refine AK.loopI (fun k : Nat => (frOf [(1, .ptr 1 0), (3, .int .i64 ((1 + sizeL (v.l.take k) : Nat) : Int)), (4, .int .i64 k)], ⟨boxOf [(1, (vC (v)), false)], fun _ => 0⟩)) (fun k => k ≤ v.l.length) (fun k => v.l.length - k) 0 (by omega) (Weak.intro ⟨kI, kI, kI, trivial⟩ ⟨kJ, trivial⟩ rfl rfl) fun k hk => ?_
  refine kW ?_
  refine kC (fun hb => ?_) fun hb => ?_
  ·have hlt : k < v.l.length := by simpa [rowsV_len] using hb
   obtain ⟨x, hg⟩ : ∃ x, v.l[k]? = some x := ⟨_, List.getElem?_eq_getElem hlt⟩
   have hx := sizeL_take hg
   have hx2 := sizeL_take_le v.l (k + 1)
   refine kW ?_
   refine kP [.c (vC (x)), .v (.int .i64 x.size)] ?_ ?_
   ·((repeat' apply And.intro) <;> first | exact kD | (intro hgd; refine ⟨?_, kG⟩; (repeat' apply And.intro) <;> first | exact kD | skip) | skip)
    ·exact rowsV_at hg
    ·exact ih x (by omega) (by omega)
   refine kW ?_
   exact AK.lp ⟨k + 1, by omega, Weak.intro ⟨kI, kU, kU, trivial⟩ ⟨kJ, trivial⟩ rfl rfl, by omega⟩
  ·have hlt : k = v.l.length := by have : v.l.length ≤ k := by simpa [rowsV_len] using hb
                                   omega
   subst hlt
   rw [List.take_length]
   refine AK.exit rfl ?_
   refine kW ?_
   refine AK.loopI (fun k : Nat => (frOf [(1, .ptr 1 0), (3, .int .i64 ((1 + sizeL v.l + sizeM (v.m.take k) : Nat) : Int)), (5, .int .i64 k)], ⟨boxOf [(1, (vC (v)), false)], fun _ => 0⟩)) (fun k => k ≤ v.m.length) (fun k => v.m.length - k) 0 (by omega) (Weak.intro ⟨kI, kI, kI, trivial⟩ ⟨kJ, trivial⟩ rfl rfl) fun k hk => ?_
   refine kW ?_
   refine kC (fun hb => ?_) fun hb => ?_
   ·have hlt : k < v.m.length := by simpa [rowsM_len] using hb
    obtain ⟨⟨y, x⟩, hg⟩ : ∃ x, v.m[k]? = some x := ⟨_, List.getElem?_eq_getElem hlt⟩
    have hx := sizeM_take hg
    have hx2 := sizeM_take_le v.m (k + 1)
    refine kW ?_
    refine kP [.c (.str y :: (vC (x))), .v (.int .i64 x.size)] ?_ ?_
    ·((repeat' apply And.intro) <;> first | exact kD | (intro hgd; refine ⟨?_, kG⟩; (repeat' apply And.intro) <;> first | exact kD | skip) | skip)
     ·exact rowsM_at hg
     ·exact ih x (by omega) (by omega)
    refine kW ?_
    exact AK.lp ⟨k + 1, by omega, Weak.intro ⟨kI, kU, kU, trivial⟩ ⟨kJ, trivial⟩ rfl rfl, by omega⟩
   ·have hlt : k = v.m.length := by have : v.m.length ≤ k := by simpa [rowsM_len] using hb
                                    omega
    subst hlt
    rw [List.take_length]
    refine AK.exit rfl ?_
    refine kW ?_
    refine AK.ret ⟨_, rfl, ?_⟩
    rw [hve]
    rfl
theorem refDepth_a (n : Nat) : ∀ v : V, v.size ≤ n → v.size ≤ 2000000000000 → AC Tryz.prog 144 [(vA (v))] (.int .i64 v.depth) := by
 induction n with
 | zero => intro v h; have := v.size_pos; omega
 | succ n ih =>
  intro v hn hsz
  have hve := v.size_eq
  have hde := v.depth_eq
  have hds := v.depth_le_size'
  have hll := len_le_sizeL v.l
  have hlm := len_le_sizeM v.m
  refine kE Tryz.func144 a_ref01_Depth_ok a_ref01_Depth_cb fun E hE => ?_
  refine kW ?_
  refine AK.loopI (fun k : Nat => (frOf [(1, .ptr 1 0), (3, .int .i64 (depthL (v.l.take k) : Nat)), (4, .int .i64 k)], ⟨boxOf [(1, (vC (v)), false)], fun _ => 0⟩)) (fun k => k ≤ v.l.length) (fun k => v.l.length - k) 0 (by omega) (Weak.intro ⟨kI, kI, kI, trivial⟩ ⟨kJ, trivial⟩ rfl rfl) fun k hk => ?_
  refine kW ?_
  refine kC (fun hb => ?_) fun hb => ?_
  ·have hlt : k < v.l.length := by simpa [rowsV_len] using hb
   obtain ⟨x, hg⟩ : ∃ x, v.l[k]? = some x := ⟨_, List.getElem?_eq_getElem hlt⟩
   have hx := sizeL_take hg
   have hx2 := sizeL_take_le v.l (k + 1)
   have hd := depthL_take hg
   have hd2 := depthL_take_le v.l (k + 1)
   have hd3 := depthL_take_le v.l k
   have hd4 := x.depth_le_size'
   refine kW ?_
   refine kP [.c (vC (x)), .v (.int .i64 x.depth)] ?_ ?_
   ·((repeat' apply And.intro) <;> first | exact kD | (intro hgd; refine ⟨?_, kG⟩; (repeat' apply And.intro) <;> first | exact kD | skip) | skip)
    ·exact rowsV_at hg
    ·exact ih x (by omega) (by omega)
   refine kW ?_
   refine kC (fun hb => ?_) fun hb => ?_
   ·have hm : depthL (v.l.take k) < x.depth := by simpa using hb
    refine kW ?_
    exact AK.lp ⟨k + 1, by omega, Weak.intro ⟨kI, kU, kU, trivial⟩ ⟨kJ, trivial⟩ rfl rfl, by omega⟩
   ·have hm : x.depth ≤ depthL (v.l.take k) := by simpa using hb
    refine kW ?_
    exact AK.lp ⟨k + 1, by omega, Weak.intro ⟨kI, kU, kU, trivial⟩ ⟨kJ, trivial⟩ rfl rfl, by omega⟩
  ·have hlt : k = v.l.length := by have : v.l.length ≤ k := by simpa [rowsV_len] using hb
                                   omega
   subst hlt
   rw [List.take_length]
   refine AK.exit rfl ?_
   refine kW ?_
   refine AK.loopI (fun k : Nat => (frOf [(1, .ptr 1 0), (3, .int .i64 (max (depthL v.l) (depthM (v.m.take k)) : Nat)), (6, .int .i64 k)], ⟨boxOf [(1, (vC (v)), false)], fun _ => 0⟩)) (fun k => k ≤ v.m.length) (fun k => v.m.length - k) 0 (by omega) (Weak.intro ⟨kI, ⟨_, rfl, .of_eq (by simp [depthM])⟩, kI, trivial⟩ ⟨kJ, trivial⟩ rfl rfl) fun k hk => ?_
   refine kW ?_
   refine kC (fun hb => ?_) fun hb => ?_
   ·have hlt : k < v.m.length := by simpa [rowsM_len] using hb
    obtain ⟨⟨y, x⟩, hg⟩ : ∃ x, v.m[k]? = some x := ⟨_, List.getElem?_eq_getElem hlt⟩
    have hx := sizeM_take hg
    have hx2 := sizeM_take_le v.m (k + 1)
    have hd := depthM_take hg
    have hd2 := depthM_take_le v.m (k + 1)
    have hd3 := depthM_take_le v.m k
    have hd4 := x.depth_le_size'
    refine kW ?_
    refine kP [.c (.str y :: (vC (x))), .v (.int .i64 x.depth)] ?_ ?_
    ·((repeat' apply And.intro) <;> first | exact kD | (intro hgd; refine ⟨?_, kG⟩; (repeat' apply And.intro) <;> first | exact kD | skip) | skip)
     ·exact rowsM_at hg
     ·exact ih x (by omega) (by omega)
    refine kW ?_
    refine kC (fun hb => ?_) fun hb => ?_
    ·have hm : max (depthL v.l) (depthM (v.m.take k)) < x.depth := by simpa using hb
     refine kW ?_
     exact AK.lp ⟨k + 1, by omega, Weak.intro ⟨kI, kU, kU, trivial⟩ ⟨kJ, trivial⟩ rfl rfl, by omega⟩
    ·have hm : x.depth ≤ max (depthL v.l) (depthM (v.m.take k)) := by simpa using hb
     refine kW ?_
     exact AK.lp ⟨k + 1, by omega, Weak.intro ⟨kI, kU, kU, trivial⟩ ⟨kJ, trivial⟩ rfl rfl, by omega⟩
   ·have hlt : k = v.m.length := by have : v.m.length ≤ k := by simpa [rowsM_len] using hb
                                    omega
    subst hlt
    rw [List.take_length]
    refine AK.exit rfl ?_
    refine kW ?_
    refine AK.ret ⟨_, rfl, ?_⟩
    rw [wrap_in (by omega) (by omega), hde]
    rfl
theorem refKey_a (s : ByteArray) (hs : s.size ≤ 140737488355328) : AC Tryz.prog 186 [.str s] (.bool (keyB s)) := by
 refine kE Tryz.func186 a_ref01_Key_ok a_ref01_Key_cb fun E hE => ?_
 refine kW ?_
 refine AK.loopI (fun k : Nat => (frOf [(0, .str s), (3, .int .i64 k)], ⟨boxOf [], fun _ => 0⟩)) (fun k => k ≤ s.size ∧ allTo okK s k) (fun k => s.size - k) 0 ⟨by omega, allTo_zero _ _⟩ (Weak.intro ⟨kI, kI, trivial⟩ trivial rfl rfl) fun k ⟨hk, hno⟩ => ?_
 refine kW ?_
 refine kC (fun hb => ?_) fun hb => ?_
 ·have hlt : k < s.size := by simpa using hb
  refine kW ?_
  refine kQ [] ?_
  rw [show s.data.getD (k : Int).toNat 0 = s[k] from byte_at hlt]
  refine kC (fun hb => ?_) fun hb => ?_
  ·refine kW ?_
   refine AK.ret ⟨_, rfl, ?_⟩
   have hf : okK s[k] = false := by
    simp only [Bool.or_eq_true, decide_eq_true_eq] at hb
    simp only [okK, Bool.and_eq_false_iff, decide_eq_false_iff_not]
    omega
   rw [keyB, allB_false hlt hf]
   rfl
  ·have ht : okK s[k] = true := by
    simp only [Bool.or_eq_false_iff, decide_eq_false_iff_not] at hb
    simp only [okK, Bool.and_eq_true, decide_eq_true_eq]
    omega
   refine kW ?_
   exact AK.lp ⟨k + 1, ⟨by omega, allTo_succ hno hlt ht⟩, Weak.intro ⟨kI, kU, trivial⟩ trivial rfl rfl, by omega⟩
 ·have hlt : k = s.size := by have : s.size ≤ k := by simpa using hb
                              omega
  subst hlt
  refine AK.exit rfl ?_
  refine kW ?_
  refine kQ [] ?_
  refine kW ?_
  refine AK.ret ⟨_, rfl, ?_⟩
  show AV.bool _ = AV.bool _
  refine congrArg AV.bool ?_
  rw [keyB, allB_true hno, Bool.eq_iff_iff]
  simp
  try omega
end Go.Proofs.YtbfiopoefbbknaaGreatDoor
/-
 The document's functions parts and Check, walked as instructions.
-/
namespace Go.Proofs.YtbfiopoefbbknaaGreatDoor
open Go.RowKit
theorem kbad_eq {v : V} : kbad v.kind v.b v.n v.s v.l.length v.m.length = (decide (v.kind < 0) || decide (v.kind > 5) || !decide (v.kind = 1) && v.b || !decide (v.kind = 2) && !decide (v.n = 0) || !decide (v.kind = 3) && !decide (v.s = { data := #[] }) ||
  !decide (v.kind = 4) && decide (((rowsV v.l).length : Int) > 0) || !decide (v.kind = 5) && decide (((rowsM v.m).length : Int) > 0)) := by
 rw [rowsV_len, rowsM_len]
 unfold kbad noBytes
 rw [Bool.eq_iff_iff]
 simp
theorem partsC_kind {v : V} (h : kbad v.kind v.b v.n v.s v.l.length v.m.length = true) : v.partsC = 8 := by rw [V.partsC_eq, if_pos h]
theorem partsC_text {v : V} (h : kbad v.kind v.b v.n v.s v.l.length v.m.length = false) (ht : textB v.s = false) : v.partsC = 10 := by rw [V.partsC_eq, if_neg (by simp [h]), if_pos ht]
theorem partsC_list {v : V} (h : kbad v.kind v.b v.n v.s v.l.length v.m.length = false) (ht : textB v.s = true) (hl : partsL v.l ≠ 0) : v.partsC = partsL v.l := by rw [V.partsC_eq, if_neg (by simp [h]), if_neg (by simp [ht]), if_pos hl]
theorem partsC_map {v : V} (h : kbad v.kind v.b v.n v.s v.l.length v.m.length = false) (ht : textB v.s = true) (hl : partsL v.l = 0) : v.partsC = partsM none v.m := by rw [V.partsC_eq, if_neg (by simp [h]), if_neg (by simp [ht]), if_neg (by simp [hl])]
theorem noRise_eq {m : List (ByteArray × V)} {k : Nat} {y z : ByteArray} {x' : V} (hz : 0 < k → m[k - 1]? = some (z, x')) : noRise (prevK m k) y = (decide ((k : Int) > 0) && !Op.bytesLess z.toList y.toList) := by
 cases k with
 | zero => simp [prevK, noRise]
 | succ k =>
  have := hz (by omega)
  simp only [Nat.add_sub_cancel] at this
  have e : decide (((k + 1 : Nat) : Int) > 0) = true := decide_eq_true (by omega)
  rw [prevK, this, e]; simp [noRise]
set_option maxRecDepth 4000 in
theorem refParts_a (n : Nat) : ∀ v : V, v.size ≤ n → v.sb → v.size ≤ 2000000000000 → AC Tryz.prog 146 [(vA (v))] (.int .i64 v.partsC) := by
 induction n with
 | zero => intro v h; have := v.size_pos; omega
 | succ n ih =>
  intro v hn hsb hsz
  have hve := v.size_eq
  have hll := len_le_sizeL v.l
  have hlm := len_le_sizeM v.m
  refine kE Tryz.func146 a_ref01_parts_ok a_ref01_parts_cb fun E hE => ?_
  refine kW ?_
  refine kQ [] ?_
  refine kC (fun hb => ?_) fun hb => ?_
  ·refine kW ?_
   refine AK.ret ⟨_, rfl, ?_⟩
   exact congrArg (AV.int _) (partsC_kind (kbad_eq.trans hb)).symm
  have hk0 := kbad_eq.trans hb
  refine kW ?_
  refine kP [.v (.bool (textB v.s))] ?_ ?_
  ·((repeat' apply And.intro) <;> first | exact kD | (intro hgd; refine ⟨?_, kG⟩; (repeat' apply And.intro) <;> first | exact kD | skip) | skip)
   ·exact refText_a _ (sb_s hsb)
  refine kC (fun hb => ?_) fun hb => ?_
  ·refine kW ?_
   refine AK.ret ⟨_, rfl, ?_⟩
   exact congrArg (AV.int _) (partsC_text hk0 (by simpa using hb)).symm
  have ht0 : textB v.s = true := by simpa using hb
  refine kW ?_
  refine AK.loopI (fun k : Nat => (frOf [(1, .ptr 1 0), (3, .int .i64 k)], ⟨boxOf [(1, (vC (v)), false)], fun _ => 0⟩)) (fun k => k ≤ v.l.length ∧ partsL (v.l.drop k) = partsL v.l) (fun k => v.l.length - k) 0 ⟨by omega, rfl⟩ (Weak.intro ⟨kI, kI, trivial⟩ ⟨kJ, trivial⟩ rfl rfl) fun k ⟨hk, hr⟩ => ?_
  refine kW ?_
  refine kC (fun hb => ?_) fun hb => ?_
  ·have hlt : k < v.l.length := by simpa [rowsV_len] using hb
   obtain ⟨x, hg⟩ : ∃ x, v.l[k]? = some x := ⟨_, List.getElem?_eq_getElem hlt⟩
   have hx := sizeL_take hg
   have hx2 := sizeL_take_le v.l (k + 1)
   rw [partsL_drop hg] at hr
   refine kW ?_
   refine kP [.c (vC (x)), .v (.int .i64 x.partsC)] ?_ ?_
   ·((repeat' apply And.intro) <;> first | exact kD | (intro hgd; refine ⟨?_, kG⟩; (repeat' apply And.intro) <;> first | exact kD | skip) | skip)
    ·exact rowsV_at hg
    ·exact ih x (by omega) (sb_l hsb hg) (by omega)
   refine kW ?_
   refine kC (fun hb => ?_) fun hb => ?_
   ·have he : x.partsC ≠ 0 := by simpa using hb
    rw [if_pos he] at hr
    refine kW ?_
    refine AK.ret ⟨_, rfl, ?_⟩
    exact congrArg (AV.int _) (by rw [partsC_list hk0 ht0 (by rw [← hr]; exact he)]; exact hr)
   ·have he : ¬ x.partsC ≠ 0 := by simpa using hb
    rw [if_neg he] at hr
    refine kW ?_
    exact AK.lp ⟨k + 1, ⟨by omega, hr⟩, Weak.intro ⟨kI, kU, trivial⟩ ⟨kJ, trivial⟩ rfl rfl, by omega⟩
  ·have hlt : k = v.l.length := by have : v.l.length ≤ k := by simpa [rowsV_len] using hb
                                   omega
   subst hlt
   have hl0 : partsL v.l = 0 := by rw [← hr, List.drop_length]; rfl
   clear hr
   refine AK.exit rfl ?_
   refine kW ?_
   refine AK.loopI (fun k : Nat => (frOf [(1, .ptr 1 0), (5, .int .i64 k)], ⟨boxOf [(1, (vC (v)), false)], fun _ => 0⟩)) (fun k => k ≤ v.m.length ∧ partsM (prevK v.m k) (v.m.drop k) = v.partsC) (fun k => v.m.length - k) 0 ⟨by omega, (partsC_map hk0 ht0 hl0).symm⟩ (Weak.intro ⟨kI, kI, trivial⟩ ⟨kJ, trivial⟩ rfl rfl) fun k ⟨hk, hr⟩ => ?_
   refine kW ?_
   refine kC (fun hb => ?_) fun hb => ?_
   ·have hlt : k < v.m.length := by simpa [rowsM_len] using hb
    obtain ⟨⟨y, x⟩, hg⟩ : ∃ x, v.m[k]? = some x := ⟨_, List.getElem?_eq_getElem hlt⟩
    obtain ⟨z, x', hz⟩ : ∃ z x', 0 < k → v.m[k - 1]? = some (z, x') := by
     by_cases h0 : 0 < k
     ·exact ⟨(v.m[k - 1]'(by omega)).1, (v.m[k - 1]'(by omega)).2, fun _ => List.getElem?_eq_getElem (by omega)⟩
     ·exact ⟨y, x, fun h => absurd h h0⟩
    have hx := sizeM_take hg
    have hx2 := sizeM_take_le v.m (k + 1)
    rw [partsM_drop hg] at hr
    refine kW ?_
    refine kP [.c (.str y :: (vC (x))), .v (.bool (keyB y))] ?_ ?_
    ·((repeat' apply And.intro) <;> first | exact kD | (intro hgd; refine ⟨?_, kG⟩; (repeat' apply And.intro) <;> first | exact kD | skip) | skip)
     ·exact rowsM_at hg
     ·exact refKey_a _ (sb_m hsb hg).1
    refine kC (fun hb => ?_) fun hb => ?_
    ·refine kW ?_
     refine AK.ret ⟨_, rfl, ?_⟩
     exact congrArg (AV.int _) (by rw [← hr, if_pos (by simpa using hb)])
    rw [if_neg (by simpa using hb)] at hr
    refine kW ?_
    refine kP [.c (.str y :: (vC (x))), .c (.str z :: (vC (x')))] ?_ ?_
    ·((repeat' apply And.intro) <;> first | exact kD | (intro hgd; refine ⟨?_, kG⟩; (repeat' apply And.intro) <;> first | exact kD | skip) | skip)
     ·exact rowsM_at hg
     ·have h0 : 0 < k := by simpa [gd] using hgd
      rw [wrap_in (by omega) (by omega)]; omega
     ·have h0 : 0 < k := by simpa [gd] using hgd
      rw [wrap_in (by omega) (by omega), show ((k : Int) - 1).toNat = k - 1 by omega]
      exact rowsM_at (hz h0)
    have hn := noRise_eq (y := y) hz
    refine kC (fun hb => ?_) fun hb => ?_
    ·refine kW ?_
     refine AK.ret ⟨_, rfl, ?_⟩
     exact congrArg (AV.int _) (by rw [← hr, if_pos (hn.trans hb)])
    rw [if_neg (by rw [hn, hb]; decide)] at hr
    refine kW ?_
    refine kP [.c (.str y :: (vC (x))), .v (.int .i64 x.partsC)] ?_ ?_
    ·((repeat' apply And.intro) <;> first | exact kD | (intro hgd; refine ⟨?_, kG⟩; (repeat' apply And.intro) <;> first | exact kD | skip) | skip)
     ·exact rowsM_at hg
     ·exact ih x (by omega) (sb_m hsb hg).2 (by omega)
    refine kW ?_
    refine kC (fun hb => ?_) fun hb => ?_
    ·have he : x.partsC ≠ 0 := by simpa using hb
     rw [if_pos he] at hr
     refine kW ?_
     refine AK.ret ⟨_, rfl, ?_⟩
     exact congrArg (AV.int _) hr
    ·have he : ¬ x.partsC ≠ 0 := by simpa using hb
     rw [if_neg he] at hr
     refine kW ?_
     exact AK.lp ⟨k + 1, ⟨by omega, hr⟩, Weak.intro ⟨kI, kU, trivial⟩ ⟨kJ, trivial⟩ rfl rfl, by omega⟩
   ·have hlt : k = v.m.length := by have : v.m.length ≤ k := by simpa [rowsM_len] using hb
                                    omega
    subst hlt
    refine AK.exit rfl ?_
    refine kW ?_
    refine AK.ret ⟨_, rfl, ?_⟩
    exact congrArg (AV.int _) (by rw [← hr, List.drop_length]; rfl)
theorem refCheck_a (v : V) (hsb : v.sb) (hsz : v.size ≤ 2000000000000) : AC Tryz.prog 99 [(vA (v))] (.int .i64 v.checkC) := by
 refine kE Tryz.func99 a_ref01_Check_ok a_ref01_Check_cb fun E hE => ?_
 refine kW ?_
 refine kP [.v (.int .i64 v.depth)] ?_ ?_
 ·((repeat' apply And.intro) <;> first | exact kD | (intro hgd; refine ⟨?_, kG⟩; (repeat' apply And.intro) <;> first | exact kD | skip) | skip)
  ·exact refDepth_a _ v (Nat.le_refl _) hsz
 refine kC (fun hb => ?_) fun hb => ?_
 ·have h1 : 16 < v.depth := by have : (16 : Int) < v.depth := by simpa using hb
                               omega
  refine kW ?_
  refine AK.ret ⟨_, rfl, ?_⟩
  exact congrArg (AV.int _) (by rw [V.checkC, if_pos h1])
 have h1 : ¬ 16 < v.depth := by have : (v.depth : Int) ≤ 16 := by simpa using hb
                                omega
 refine kW ?_
 refine kP [.v (.int .i64 v.size)] ?_ ?_
 ·((repeat' apply And.intro) <;> first | exact kD | (intro hgd; refine ⟨?_, kG⟩; (repeat' apply And.intro) <;> first | exact kD | skip) | skip)
  ·exact refSize_a _ v (Nat.le_refl _) hsz
 refine kC (fun hb => ?_) fun hb => ?_
 ·have h2 : 4096 < v.size := by have : (4096 : Int) < v.size := by simpa using hb
                                omega
  refine kW ?_
  refine AK.ret ⟨_, rfl, ?_⟩
  exact congrArg (AV.int _) (by rw [V.checkC, if_neg h1, if_pos h2])
 have h2 : ¬ 4096 < v.size := by have : (v.size : Int) ≤ 4096 := by simpa using hb
                                 omega
 refine kW ?_
 refine kP [.v (.int .i64 v.partsC)] ?_ ?_
 ·((repeat' apply And.intro) <;> first | exact kD | (intro hgd; refine ⟨?_, kG⟩; (repeat' apply And.intro) <;> first | exact kD | skip) | skip)
  ·exact refParts_a _ v (Nat.le_refl _) hsb hsz
 refine kW ?_
 refine AK.ret ⟨_, rfl, ?_⟩
 exact congrArg (AV.int _) (by rw [V.checkC, if_neg h1, if_neg h2])
theorem max_cast (a b : Nat) : (match decide ((b : Int) > (a : Int)) with | true => (b : Int) | false => (a : Int)) = ((max a b : Nat) : Int) := by
 by_cases h : a < b
 ·rw [decide_eq_true (by omega)]; show (b : Int) = _; omega
 ·rw [decide_eq_false (by omega)]; show (a : Int) = _; omega
theorem treeSize_a (n : Nat) : ∀ v : V, v.size ≤ n → v.size ≤ 2000000000000 → AC Tryz.prog 68 [(vA (v))] (.int .i64 v.size) := by
 induction n with
 | zero => intro v h; have := v.size_pos; omega
 | succ n ih =>
  intro v hn hsz
  have hve := v.size_eq
  have hll := len_le_sizeL v.l
  have hlm := len_le_sizeM v.m
  refine kE Tryz.func68 a_tree_Size_ok a_tree_Size_cb fun E hE => ?_
  refine kW ?_
  refine AK.loopI (fun k : Nat => (frOf [(1, .ptr 1 0), (3, .int .i64 ((1 + sizeL (v.l.take k) : Nat) : Int)), (9, .lst .any 6 (rowsV v.l)), (10, .int .i64 (rowsV v.l).length), (11, .int .i64 k)], ⟨boxOf [(1, (vC (v)), false)], fun _ => 0⟩)) (fun k => k ≤ v.l.length) (fun k => v.l.length - k) 0 (by omega) (Weak.intro ⟨kI, kI, kI, kI, kI, trivial⟩ ⟨kJ, trivial⟩ rfl rfl) fun k hk => ?_
  refine kW ?_
  refine kC (fun hb => ?_) fun hb => ?_
  ·have hlt : k < v.l.length := by simpa [rowsV_len] using hb
   obtain ⟨x, hg⟩ : ∃ x, v.l[k]? = some x := ⟨_, List.getElem?_eq_getElem hlt⟩
   have hx := sizeL_take hg
   have hx2 := sizeL_take_le v.l (k + 1)
   refine kW ?_
   refine kP [.c (vC (x))] ?_ ?_
   ·((repeat' apply And.intro) <;> first | exact kD | (intro hgd; refine ⟨?_, kG⟩; (repeat' apply And.intro) <;> first | exact kD | skip) | skip)
    ·exact rowsV_at hg
   refine kW ?_
   refine kP [.v (.int .i64 x.size)] ?_ ?_
   ·((repeat' apply And.intro) <;> first | exact kD | (intro hgd; refine ⟨?_, kG⟩; (repeat' apply And.intro) <;> first | exact kD | skip) | skip)
    ·exact ih x (by omega) (by omega)
   refine kW ?_
   exact AK.lp ⟨k + 1, by omega, Weak.intro ⟨kI, kU, kI, kI, kU, trivial⟩ ⟨kJ, trivial⟩ rfl rfl, by omega⟩
  ·have hlt : k = v.l.length := by have : v.l.length ≤ k := by simpa [rowsV_len] using hb
                                   omega
   subst hlt
   rw [List.take_length]
   refine AK.exit rfl ?_
   refine kW ?_
   refine AK.loopI (fun k : Nat => (frOf [(1, .ptr 1 0), (3, .int .i64 ((1 + sizeL v.l + sizeM (v.m.take k) : Nat) : Int)), (21, .lst .any 7 (rowsM v.m)), (22, .int .i64 (rowsM v.m).length), (23, .int .i64 k)], ⟨boxOf [(1, (vC (v)), false)], fun _ => 0⟩)) (fun k => k ≤ v.m.length) (fun k => v.m.length - k) 0 (by omega) (Weak.intro ⟨kI, kI, kI, kI, kI, trivial⟩ ⟨kJ, trivial⟩ rfl rfl) fun k hk => ?_
   refine kW ?_
   refine kC (fun hb => ?_) fun hb => ?_
   ·have hlt : k < v.m.length := by simpa [rowsM_len] using hb
    obtain ⟨⟨y, x⟩, hg⟩ : ∃ x, v.m[k]? = some x := ⟨_, List.getElem?_eq_getElem hlt⟩
    have hx := sizeM_take hg
    have hx2 := sizeM_take_le v.m (k + 1)
    refine kW ?_
    refine kP [.c (.str y :: (vC (x)))] ?_ ?_
    ·((repeat' apply And.intro) <;> first | exact kD | (intro hgd; refine ⟨?_, kG⟩; (repeat' apply And.intro) <;> first | exact kD | skip) | skip)
     ·exact rowsM_at hg
    refine kW ?_
    refine kP [.v (.int .i64 x.size)] ?_ ?_
    ·((repeat' apply And.intro) <;> first | exact kD | (intro hgd; refine ⟨?_, kG⟩; (repeat' apply And.intro) <;> first | exact kD | skip) | skip)
     ·exact ih x (by omega) (by omega)
    refine kW ?_
    exact AK.lp ⟨k + 1, by omega, Weak.intro ⟨kI, kU, kI, kI, kU, trivial⟩ ⟨kJ, trivial⟩ rfl rfl, by omega⟩
   ·have hlt : k = v.m.length := by have : v.m.length ≤ k := by simpa [rowsM_len] using hb
                                    omega
    subst hlt
    rw [List.take_length]
    refine AK.exit rfl ?_
    refine kW ?_
    refine AK.ret ⟨_, rfl, ?_⟩
    rw [hve]
    rfl
theorem treeDepth_a (n : Nat) : ∀ v : V, v.size ≤ n → v.size ≤ 2000000000000 → AC Tryz.prog 67 [(vA (v))] (.int .i64 v.depth) := by
 induction n with
 | zero => intro v h; have := v.size_pos; omega
 | succ n ih =>
  intro v hn hsz
  have hve := v.size_eq
  have hde := v.depth_eq
  have hds := v.depth_le_size'
  have hll := len_le_sizeL v.l
  have hlm := len_le_sizeM v.m
  refine kE Tryz.func67 a_tree_Depth_ok a_tree_Depth_cb fun E hE => ?_
  refine kW ?_
  refine AK.loopI (fun k : Nat => (frOf [(1, .ptr 1 0), (3, .int .i64 (depthL (v.l.take k) : Nat)), (9, .lst .any 6 (rowsV v.l)), (10, .int .i64 (rowsV v.l).length), (11, .int .i64 k)], ⟨boxOf [(1, (vC (v)), false)], fun _ => 0⟩)) (fun k => k ≤ v.l.length) (fun k => v.l.length - k) 0 (by omega) (Weak.intro ⟨kI, kI, kI, kI, kI, trivial⟩ ⟨kJ, trivial⟩ rfl rfl) fun k hk => ?_
  refine kW ?_
  refine kC (fun hb => ?_) fun hb => ?_
  ·have hlt : k < v.l.length := by simpa [rowsV_len] using hb
   obtain ⟨x, hg⟩ : ∃ x, v.l[k]? = some x := ⟨_, List.getElem?_eq_getElem hlt⟩
   have hx := sizeL_take hg
   have hx2 := sizeL_take_le v.l (k + 1)
   have hd := depthL_take hg
   refine kW ?_
   refine kP [.c (vC (x))] ?_ ?_
   ·((repeat' apply And.intro) <;> first | exact kD | (intro hgd; refine ⟨?_, kG⟩; (repeat' apply And.intro) <;> first | exact kD | skip) | skip)
    ·exact rowsV_at hg
   refine kW ?_
   refine kP [.v (.int .i64 x.depth)] ?_ ?_
   ·((repeat' apply And.intro) <;> first | exact kD | (intro hgd; refine ⟨?_, kG⟩; (repeat' apply And.intro) <;> first | exact kD | skip) | skip)
    ·exact ih x (by omega) (by omega)
   refine kW ?_
   refine AK.lp ⟨k + 1, by omega, Weak.intro ⟨kI, ⟨_, rfl, .of_eq (congrArg (AV.int _) ?_)⟩, kI, kI, kU, trivial⟩ ⟨kJ, trivial⟩ rfl rfl, by omega⟩
   exact (max_cast _ _).trans (by rw [hd])
  ·have hlt : k = v.l.length := by have : v.l.length ≤ k := by simpa [rowsV_len] using hb
                                   omega
   subst hlt
   rw [List.take_length]
   refine AK.exit rfl ?_
   refine kW ?_
   refine AK.loopI (fun k : Nat => (frOf [(1, .ptr 1 0), (3, .int .i64 (max (depthL v.l) (depthM (v.m.take k)) : Nat)), (21, .lst .any 7 (rowsM v.m)), (22, .int .i64 (rowsM v.m).length), (23, .int .i64 k)], ⟨boxOf [(1, (vC (v)), false)], fun _ => 0⟩)) (fun k => k ≤ v.m.length) (fun k => v.m.length - k) 0 (by omega) (Weak.intro ⟨kI, ⟨_, rfl, .of_eq (by simp [depthM])⟩, kI, kI, kI, trivial⟩ ⟨kJ, trivial⟩ rfl rfl) fun k hk => ?_
   refine kW ?_
   refine kC (fun hb => ?_) fun hb => ?_
   ·have hlt : k < v.m.length := by simpa [rowsM_len] using hb
    obtain ⟨⟨y, x⟩, hg⟩ : ∃ x, v.m[k]? = some x := ⟨_, List.getElem?_eq_getElem hlt⟩
    have hx := sizeM_take hg
    have hx2 := sizeM_take_le v.m (k + 1)
    have hd := depthM_take hg
    refine kW ?_
    refine kP [.c (.str y :: (vC (x)))] ?_ ?_
    ·((repeat' apply And.intro) <;> first | exact kD | (intro hgd; refine ⟨?_, kG⟩; (repeat' apply And.intro) <;> first | exact kD | skip) | skip)
     ·exact rowsM_at hg
    refine kW ?_
    refine kP [.v (.int .i64 x.depth)] ?_ ?_
    ·((repeat' apply And.intro) <;> first | exact kD | (intro hgd; refine ⟨?_, kG⟩; (repeat' apply And.intro) <;> first | exact kD | skip) | skip)
     ·exact ih x (by omega) (by omega)
    refine kW ?_
    refine AK.lp ⟨k + 1, by omega, Weak.intro ⟨kI, ⟨_, rfl, .of_eq (congrArg (AV.int _) ?_)⟩, kI, kI, kU, trivial⟩ ⟨kJ, trivial⟩ rfl rfl, by omega⟩
    exact (max_cast _ _).trans (congrArg Int.ofNat (by rw [hd]; omega))
   ·have hlt : k = v.m.length := by have : v.m.length ≤ k := by simpa [rowsM_len] using hb
                                    omega
    subst hlt
    rw [List.take_length]
    refine AK.exit rfl ?_
    refine kW ?_
    refine AK.ret ⟨_, rfl, ?_⟩
    rw [wrap_in (by omega) (by omega), hde]
    rfl
theorem treeText_a (s : ByteArray) (hs : s.size ≤ 140737488355328) : AC Tryz.prog 38 [.str s] (.bool (textB s)) := by
 refine kE Tryz.func38 a_tree_Text_ok a_tree_Text_cb fun E hE => ?_
 refine kW ?_
 refine AK.loopI (fun k : Nat => (frOf [(0, .str s), (6, .int .i64 s.size), (7, .int .i64 k)], ⟨boxOf [], fun _ => 0⟩)) (fun k => k ≤ s.size ∧ allTo okT s k) (fun k => s.size - k) 0 ⟨by omega, allTo_zero _ _⟩ (Weak.intro ⟨kI, kI, kI, trivial⟩ trivial rfl rfl) fun k ⟨hk, hno⟩ => ?_
 refine kW ?_
 refine kC (fun hb => ?_) fun hb => ?_
 ·have hlt : k < s.size := by simpa using hb
  refine kW ?_
  refine kQ [] ?_
  rw [show s.data.getD (k : Int).toNat 0 = s[k] from byte_at hlt]
  refine kW ?_
  refine kQ [] ?_
  refine kC (fun hb => ?_) fun hb => ?_
  ·refine kW ?_
   refine AK.ret ⟨_, rfl, ?_⟩
   have hf : okT s[k] = false := by
    simp only [Bool.or_eq_true, Bool.and_eq_true, Bool.not_eq_true', decide_eq_true_eq, decide_eq_false_iff_not] at hb
    simp only [okT, Bool.or_eq_false_iff, Bool.and_eq_false_iff, decide_eq_false_iff_not, beq_eq_false_iff_ne, ne_eq]
    omega
   rw [textB, allB_false hlt hf]
   rfl
  ·have ht : okT s[k] = true := by
    simp only [Bool.or_eq_false_iff, Bool.and_eq_false_iff, Bool.not_eq_false', decide_eq_true_eq, decide_eq_false_iff_not] at hb
    simp only [okT, Bool.or_eq_true, Bool.and_eq_true, decide_eq_true_eq, beq_iff_eq]
    omega
   refine kW ?_
   exact AK.lp ⟨k + 1, ⟨by omega, allTo_succ hno hlt ht⟩, Weak.intro ⟨kI, kI, kU, trivial⟩ trivial rfl rfl, by omega⟩
 ·have hlt : k = s.size := by have : s.size ≤ k := by simpa using hb
                              omega
  subst hlt
  refine AK.exit rfl ?_
  refine kW ?_
  refine AK.ret ⟨_, rfl, ?_⟩
  show AV.bool _ = AV.bool _
  refine congrArg AV.bool ?_
  rw [textB, allB_true hno, Bool.eq_iff_iff]
  simp
  try omega
theorem contains1_a (s : ByteArray) (c : UInt8) : AC Tryz.prog 52 [.str s, .str ⟨#[c]⟩] (.bool (decide (c ∈ s.data.toList))) := by
 refine ⟨by kernel_rfl, fun σ w vs hh hr hg => ?_⟩
 obtain ⟨v1, v2, rfl, h1, h2⟩ := two_args hr
 have h1 : Rel1 σ v1 (.str s) := h1
 have h2 : Rel1 σ v2 (.str ⟨#[c]⟩) := h2
 cases h1; cases h2
 refine (Tryz.strings_Contains_one s c w).mono ?_
 rintro e w' ⟨rfl, rfl⟩
 have e : decide (0 ≤ Lib.indexByte s.data.toList c) = decide (c ∈ s.data.toList) := by
  rcases ix_cases s.data.toList c with ⟨h1, h2⟩ | ⟨i, h1, h2, h3, h4⟩
  ·rw [h1, decide_eq_false h2]; rfl
  ·rw [h1, decide_eq_true (show 0 ≤ (i : Int) by omega), decide_eq_true (List.mem_of_getElem? h3)]
 rw [e]
 exact ⟨σ, _, rfl, Ext.refl _ _, hh, Below.refl _ _, .bool _⟩
theorem key_eq (s : ByteArray) : keyB s = ((decide (1 ≤ s.size) && decide (s.size ≤ 256)) && textB s && !decide (10 ∈ s.data.toList) && !decide (9 ∈ s.data.toList)) := by
 rw [Bool.eq_iff_iff]
 simp only [keyB, textB, allB, Bool.and_eq_true, Bool.not_eq_true', decide_eq_true_eq, decide_eq_false_iff_not, List.all_eq_true]
 constructor
 ·rintro ⟨h1, h2, h3⟩
  refine ⟨⟨⟨⟨h2, h3⟩, fun x hx => ?_, by omega⟩, fun hm => ?_⟩, fun hm => ?_⟩
  ·have := h1 x hx
   simp only [okK, Bool.and_eq_true, decide_eq_true_eq] at this
   simp [okT, this]
  ·have := h1 _ hm
   exact absurd this (by decide)
  ·have := h1 _ hm
   exact absurd this (by decide)
 ·rintro ⟨⟨⟨⟨h2, h3⟩, h1, _⟩, h10⟩, h9⟩
  refine ⟨fun x hx => ?_, h2, h3⟩
  have := h1 x hx
  simp only [okT, Bool.or_eq_true, Bool.and_eq_true, decide_eq_true_eq, beq_iff_eq] at this
  simp only [okK, Bool.and_eq_true, decide_eq_true_eq]
  rcases this with (h | h) | h
  ·exact h
  ·exact absurd (show (9 : UInt8) ∈ s.data.toList by rw [← show x = 9 from UInt8.toNat_inj.1 h]; exact hx) h9
  ·exact absurd (show (10 : UInt8) ∈ s.data.toList by rw [← show x = 10 from UInt8.toNat_inj.1 h]; exact hx) h10
theorem treeKey_a (s : ByteArray) (hs : s.size ≤ 140737488355328) : AC Tryz.prog 108 [.str s] (.bool (keyB s)) := by
 have h1 := treeText_a s hs
 have h2 := contains1_a s 10
 have h3 := contains1_a s 9
 refine kE Tryz.func108 a_tree_Key_ok a_tree_Key_cb fun E hE => ?_
 refine kW ?_
 refine kQ [.v (.bool (textB s)), .v (.bool (decide (10 ∈ s.data.toList))), .v (.bool (decide (9 ∈ s.data.toList)))] ?_
 refine kW ?_
 refine AK.ret ⟨_, rfl, ?_⟩
 refine congrArg AV.bool ?_
 rw [key_eq]
 have hz := sz0 s
 by_cases h0 : s.size = 0
 ·have := hz.2 h0
  subst this
  rfl
 ·have hn : ¬ s = ⟨#[]⟩ := fun e => h0 (hz.1 e)
  have h1' : 1 ≤ s.size := by omega
  have h256 : decide ((s.size : Int) ≤ 256) = decide (s.size ≤ 256) := by rw [Bool.eq_iff_iff]; simp; omega
  rw [decide_eq_false hn, decide_eq_true h1', h256]
  rfl
end Go.Proofs.YtbfiopoefbbknaaGreatDoor
/-
 tree.bare, walked.
-/
namespace Go.Proofs.YtbfiopoefbbknaaGreatDoor
open Go.RowKit
theorem run_idx6 (cs : Array Value) (j : Nat) (b : Bool) (hj : j < 6) (hu : cs[j]? = some (.bool b)) (w : World) : (Instr.index 174 (.agg cs) (.int .i64 j)).run Tryz.prog w = .ok (.bool b) w := by
 have h1 : ((j : Int) < 6) := by omega
 have h2 : ¬ 6 ≤ j := by omega
 simp [Instr.index, asIntOf, run_underlying Tryz.underlying174, h1, part, Tryz.isAgg4, Tryz.sizeOf4, hu, h2]
theorem wpList_index_arr {P : Program} {ops : Array Oper} {rest : List Oper} {tmps : Array Value} {df : List Deferred} {w : World} {Q : Exit → Act → World → Prop} {d : Option Tmp} {ty0 : TypeId} {ps : String} {af : Array Edge}
  (p q : Tmp) (ty : TypeId) (cs : Array Value) (i u : Value) (hp : tmps.getD p undef = .agg cs) (hq : tmps.getD q undef = i) (hrun : (Instr.index ty (.agg cs) i).run P w = .ok u w)
  (h : wpList P ops Q rest (({ tmps := tmps, defers := df } : Act).put d u) w) :
  wpList P ops Q ({ dst := d, op := .index ty (.tmp p) (.tmp q), type := ty0, pos := ps, after := af, guard := none } :: rest) { tmps := tmps, defers := df } w := by
 refine wpList_plain rfl fun K hK => ?_
 have e1 : ({ tmps := tmps, defers := df } : Act).eval (.tmp p) = .agg cs := hp
 have e2 : ({ tmps := tmps, defers := df } : Act).eval (.tmp q) = i := hq
 unfold Oper.wp execOp
 simp only [e1, e2, Sem.run_bind, Sem.run_pure, Result.andThen_ok, hrun]
 exact hK _ _ h
def kbAt (kind : Int) (b1 b2 b3 b4 b5 : Bool) (k : Nat) : Bool := (match k with | 1 => b1 | 2 => b2 | 3 => b3 | 4 => b4 | 5 => b5 | _ => false) && decide ((k : Int) ≠ kind)
def kbTo (kind : Int) (b1 b2 b3 b4 b5 : Bool) : Nat → Bool
 | 0 => true
 | k + 1 => kbTo kind b1 b2 b3 b4 b5 k && !kbAt kind b1 b2 b3 b4 b5 k
theorem kbTo_le {kind : Int} {b1 b2 b3 b4 b5 : Bool} {k : Nat} (h : kbAt kind b1 b2 b3 b4 b5 k = true) (n : Nat) : kbTo kind b1 b2 b3 b4 b5 (k + 1 + n) = false := by
 induction n with
 | zero => rw [Nat.add_zero, kbTo, h]; simp
 | succ n ih => rw [← Nat.add_assoc, kbTo, ih]; rfl
theorem kbTo_six (kind : Int) (b1 b2 b3 b4 b5 : Bool) : kbTo kind b1 b2 b3 b4 b5 6 = (!(b1 && decide ((1 : Int) ≠ kind)) && !(b2 && decide ((2 : Int) ≠ kind)) && !(b3 && decide ((3 : Int) ≠ kind)) && !(b4 && decide ((4 : Int) ≠ kind)) && !(b5 && decide ((5 : Int) ≠ kind))) := by
 simp only [kbTo, kbAt, Bool.true_and, Bool.false_and, Bool.not_false]
 rfl
set_option maxHeartbeats 4000000 in
set_option maxRecDepth 100000 in
theorem bare_any0 (kind : Int) (b : Bool) (n : Int) (s : ByteArray) (A1 A2 : Option Addr) (l m c1 c2 : Nat) (w : World) :
  Calls Tryz.prog 107 #[.agg #[.int .i64 kind, .bool b, .int .i64 n, .string s, .slice A1 l c1, .slice A2 m c2]] w fun e w' => e = .returned (.bool (kbTo kind b (n != 0) (!s.toList.isEmpty) (decide (0 < l)) (decide (0 < m)) 6 && (decide (0 ≤ kind) && decide (kind ≤ 5)))) ∧ Below w.heap.size w w' := by
 obtain ⟨R, hR⟩ : ∃ R, (kbTo kind b (n != 0) (!s.toList.isEmpty) (decide (0 < l)) (decide (0 < m)) 6 && (decide (0 ≤ kind) && decide (kind ≤ 5))) = R := ⟨_, rfl⟩
 rw [hR]
 go_enter Tryz.func107, Tryz.ntmps107
 go_wp2_with fail
 generalize (n != 0) = b2 at hR ⊢
 generalize (!s.toList.isEmpty) = b3 at hR ⊢
 generalize (decide (0 < l)) = b4 at hR ⊢
 generalize (decide (0 < m)) = b5 at hR ⊢
 have HR := Lib.hid hR
 clear hR
 obtain ⟨W, hW⟩ : ∃ W : World, W = (w.alloc (.cells #[.int .i64 kind, .bool b, .int .i64 n, .string s, .slice A1 l c1, .slice A2 m c2] 39)).alloc (.cells #[.bool false, .bool b, .bool b2, .bool b3, .bool b4, .bool b5] 174) := ⟨_, rfl⟩
 have k0 : W.cell? ⟨w.heap.size, 0, none⟩ = some (.int .i64 kind) := by
  rw [hW, World.cell?_alloc_lt _ _ _ (by simp), World.cell?_alloc_at _ _ _ _ rfl]; rfl
 have hbW : Below w.heap.size w W := by
  rw [hW]; exact ((Below.refl _ _).alloc (Nat.le_refl _) _).alloc (by simp) _
 rw [← hW]
 have HB := Lib.hid hbW
 clear hW hbW
 go_loopw [24] (fun i wr => ∃ k : Nat, k ≤ 6 ∧ i = .int .i64 k ∧ wr = W ∧ Hid (kbTo kind b b2 b3 b4 b5 k = true)) (fun i _ => 6 - (intOf i).toNat)
 case atStart => exact ⟨0, by omega, rfl, rfl, Lib.hid rfl⟩
 case round =>
  obtain ⟨k, hk, rfl, rfl, hT⟩ := hrel
  have hT' := hT.out
  clear hT
  have hcs : k = 0 ∨ k = 1 ∨ k = 2 ∨ k = 3 ∨ k = 4 ∨ k = 5 ∨ k = 6 := by omega
  have hst : k < 6 → kbAt kind b b2 b3 b4 b5 k = false → Hid (kbTo kind b b2 b3 b4 b5 (k + 1) = true) := fun _ h => Lib.hid (by rw [kbTo, hT', h]; rfl)
  have hbad : k < 6 → kbAt kind b b2 b3 b4 b5 k = true → R = false := fun h1 h => by
   rw [← HR.out]
   have := kbTo_le h (5 - k)
   rw [show k + 1 + (5 - k) = 6 by omega] at this
   rw [this]; rfl
  rcases hcs with rfl | rfl | rfl | rfl | rfl | rfl | rfl
  ·have H := hst (by omega) rfl
   clear hst hbad hT'
   go_wp2_with (refine wpList_index_arr 23 24 174 _ _ (.bool false) rfl rfl (run_idx6 _ 0 false (by omega) rfl _) ?_)
   go_roundw
   case rel => exact ⟨1, by omega, by go_num, trivial, H⟩
   case measure => simp [intOf]
  ·cases b with
   | false =>
    have H := hst (by omega) rfl
    clear hst hbad hT'
    go_wp2_with (refine wpList_index_arr 23 24 174 _ _ (.bool false) rfl rfl (run_idx6 _ 1 false (by omega) rfl _) ?_)
    go_roundw
    case rel => exact ⟨2, by omega, by go_num, trivial, H⟩
    case measure => simp [intOf]
   | true =>
    by_cases hkd : (1 : Int) = kind
    ·have H := hst (by omega) (by rw [kbAt]; simp [hkd])
     have hkd' : ((1 : Int) != kind) = false := by simp [hkd]
     clear hst hbad hT' hkd
     go_wp2_with (refine wpList_index_arr 23 24 174 _ _ (.bool true) rfl rfl (run_idx6 _ 1 true (by omega) rfl _) ?_)
     go_roundw
     case rel => exact ⟨2, by omega, by go_num, trivial, H⟩
     case measure => simp [intOf]
    ·have H := hbad (by omega) (by rw [kbAt]; simp [hkd])
     have hkd' : ((1 : Int) != kind) = true := by simp [hkd]
     clear hst hbad hT' hkd
     go_wp2_with (refine wpList_index_arr 23 24 174 _ _ (.bool true) rfl rfl (run_idx6 _ 1 true (by omega) rfl _) ?_)
     go_ret
     exact ⟨by rw [H]; rfl, HB.out⟩
  ·cases b2 with
   | false =>
    have H := hst (by omega) rfl
    clear hst hbad hT'
    go_wp2_with (refine wpList_index_arr 23 24 174 _ _ (.bool false) rfl rfl (run_idx6 _ 2 false (by omega) rfl _) ?_)
    go_roundw
    case rel => exact ⟨3, by omega, by go_num, trivial, H⟩
    case measure => simp [intOf]
   | true =>
    by_cases hkd : (2 : Int) = kind
    ·have H := hst (by omega) (by rw [kbAt]; simp [hkd])
     have hkd' : ((2 : Int) != kind) = false := by simp [hkd]
     clear hst hbad hT' hkd
     go_wp2_with (refine wpList_index_arr 23 24 174 _ _ (.bool true) rfl rfl (run_idx6 _ 2 true (by omega) rfl _) ?_)
     go_roundw
     case rel => exact ⟨3, by omega, by go_num, trivial, H⟩
     case measure => simp [intOf]
    ·have H := hbad (by omega) (by rw [kbAt]; simp [hkd])
     have hkd' : ((2 : Int) != kind) = true := by simp [hkd]
     clear hst hbad hT' hkd
     go_wp2_with (refine wpList_index_arr 23 24 174 _ _ (.bool true) rfl rfl (run_idx6 _ 2 true (by omega) rfl _) ?_)
     go_ret
     exact ⟨by rw [H]; rfl, HB.out⟩
  ·cases b3 with
   | false =>
    have H := hst (by omega) rfl
    clear hst hbad hT'
    go_wp2_with (refine wpList_index_arr 23 24 174 _ _ (.bool false) rfl rfl (run_idx6 _ 3 false (by omega) rfl _) ?_)
    go_roundw
    case rel => exact ⟨4, by omega, by go_num, trivial, H⟩
    case measure => simp [intOf]
   | true =>
    by_cases hkd : (3 : Int) = kind
    ·have H := hst (by omega) (by rw [kbAt]; simp [hkd])
     have hkd' : ((3 : Int) != kind) = false := by simp [hkd]
     clear hst hbad hT' hkd
     go_wp2_with (refine wpList_index_arr 23 24 174 _ _ (.bool true) rfl rfl (run_idx6 _ 3 true (by omega) rfl _) ?_)
     go_roundw
     case rel => exact ⟨4, by omega, by go_num, trivial, H⟩
     case measure => simp [intOf]
    ·have H := hbad (by omega) (by rw [kbAt]; simp [hkd])
     have hkd' : ((3 : Int) != kind) = true := by simp [hkd]
     clear hst hbad hT' hkd
     go_wp2_with (refine wpList_index_arr 23 24 174 _ _ (.bool true) rfl rfl (run_idx6 _ 3 true (by omega) rfl _) ?_)
     go_ret
     exact ⟨by rw [H]; rfl, HB.out⟩
  ·cases b4 with
   | false =>
    have H := hst (by omega) rfl
    clear hst hbad hT'
    go_wp2_with (refine wpList_index_arr 23 24 174 _ _ (.bool false) rfl rfl (run_idx6 _ 4 false (by omega) rfl _) ?_)
    go_roundw
    case rel => exact ⟨5, by omega, by go_num, trivial, H⟩
    case measure => simp [intOf]
   | true =>
    by_cases hkd : (4 : Int) = kind
    ·have H := hst (by omega) (by rw [kbAt]; simp [hkd])
     have hkd' : ((4 : Int) != kind) = false := by simp [hkd]
     clear hst hbad hT' hkd
     go_wp2_with (refine wpList_index_arr 23 24 174 _ _ (.bool true) rfl rfl (run_idx6 _ 4 true (by omega) rfl _) ?_)
     go_roundw
     case rel => exact ⟨5, by omega, by go_num, trivial, H⟩
     case measure => simp [intOf]
    ·have H := hbad (by omega) (by rw [kbAt]; simp [hkd])
     have hkd' : ((4 : Int) != kind) = true := by simp [hkd]
     clear hst hbad hT' hkd
     go_wp2_with (refine wpList_index_arr 23 24 174 _ _ (.bool true) rfl rfl (run_idx6 _ 4 true (by omega) rfl _) ?_)
     go_ret
     exact ⟨by rw [H]; rfl, HB.out⟩
  ·cases b5 with
   | false =>
    have H := hst (by omega) rfl
    clear hst hbad hT'
    go_wp2_with (refine wpList_index_arr 23 24 174 _ _ (.bool false) rfl rfl (run_idx6 _ 5 false (by omega) rfl _) ?_)
    go_roundw
    case rel => exact ⟨6, by omega, by go_num, trivial, H⟩
    case measure => simp [intOf]
   | true =>
    by_cases hkd : (5 : Int) = kind
    ·have H := hst (by omega) (by rw [kbAt]; simp [hkd])
     have hkd' : ((5 : Int) != kind) = false := by simp [hkd]
     clear hst hbad hT' hkd
     go_wp2_with (refine wpList_index_arr 23 24 174 _ _ (.bool true) rfl rfl (run_idx6 _ 5 true (by omega) rfl _) ?_)
     go_roundw
     case rel => exact ⟨6, by omega, by go_num, trivial, H⟩
     case measure => simp [intOf]
    ·have H := hbad (by omega) (by rw [kbAt]; simp [hkd])
     have hkd' : ((5 : Int) != kind) = true := by simp [hkd]
     clear hst hbad hT' hkd
     go_wp2_with (refine wpList_index_arr 23 24 174 _ _ (.bool true) rfl rfl (run_idx6 _ 5 true (by omega) rfl _) ?_)
     go_ret
     exact ⟨by rw [H]; rfl, HB.out⟩
  ·have hR2 := HR.out
   rw [hT', Bool.true_and] at hR2
   clear hst hbad hT' HR
   by_cases h0 : 0 ≤ kind
   ·by_cases h5 : kind ≤ 5
    ·have hRt : R = true := by rw [← hR2]; simp [h0, h5]
     clear hR2
     go_wp2
     go_ret
     exact ⟨by first | rfl | (rw [hRt]; rfl), HB.out⟩
    ·have hRf : R = false := by rw [← hR2]; simp [h5]
     clear hR2
     go_wp2
     go_ret
     exact ⟨by first | rfl | (rw [hRf]; rfl), HB.out⟩
   ·have hRf : R = false := by rw [← hR2]; simp [h0]
    clear hR2
    go_wp2
    go_ret
    exact ⟨by first | rfl | (rw [hRf]; rfl), HB.out⟩
end Go.Proofs.YtbfiopoefbbknaaGreatDoor
