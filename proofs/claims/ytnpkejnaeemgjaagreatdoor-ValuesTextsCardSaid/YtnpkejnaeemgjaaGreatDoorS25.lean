/-
  The texts that the claim wants, one behind the other: part 25.
-/
import Derived.Test.YtnpkejnaeemgjaaGreatDoorS24
set_option linter.unusedSimpArgs false
set_option linter.unusedVariables false
namespace Go.Proofs.YtnpkejnaeemgjaaGreatDoor
open Go.RowKit
theorem treeList_a : AC Tryz.prog 166 [.lst .any 6 []] (.agg [.int .i64 4, .bool false, .int .i64 0, .str ⟨#[]⟩, .lst .nil 6 [], .lst .nil 7 []]) := by
 refine AC.enterR Tryz.func166 a_tree_List_ok a_tree_List_cb (by rfl) fun E hE => ?_
 show AK _ _ _ [.c b_tree_List] _ _
 rw [b_tree_List]
 refine kW ?_
 refine AK.loopI (fun i : Nat => (frOf [(2, .ptr 2 0), (3, .ptr 3 0), (7, .lst .any 6 []), (8, .int .i64 0), (9, .int .i64 i)], ⟨boxOf [(2, [.int .i64 0, .bool false, .int .i64 0, .str ⟨#[]⟩, .lst .nil 6 [], .lst .nil 7 []], false), (3, [.int .i64 4, .bool false, .int .i64 0, .str ⟨#[]⟩, .lst .nil 6 [], .lst .nil 7 []], false)], fun _ => 0⟩)) (fun i => i ≤ 0) (fun i => 0 - i) 0 (by omega) (Weak.intro ⟨kI, kI, kI, kI, kI, trivial⟩ ⟨kJ, kJ, trivial⟩ rfl rfl) fun i hi => ?_
 refine kW ?_
 refine kC (fun hb => ?_) fun hb => ?_
 ·exfalso
  have : (i : Int) < 0 := by simpa using hb
  omega
 ·refine AK.exit rfl ?_
  refine kW ?_
  refine AK.ret ⟨_, rfl, ?_⟩
  rfl
def fA (r : V × Bs × Int) : AV := .tup [(vA (r.1)), .str (toB r.2.1), .int .i64 r.2.2]
def flowJ (n : Nat) : Bs → V × Bs × Int
 | [] => flowF n (.flow []) []
 | d :: u => if d = 93 then (vList [], tl u, 0) else flowF n (.flow []) (d :: u)
def bracJ (n : Nat) : Bs → V × Bs × Int
 | [] => flowF n (.braces []) []
 | d :: u => if d = 125 then (vMap [], tl u, 0) else flowF n (.braces []) (d :: u)
def flowI (n : Nat) (t : Bs) : V × Bs × Int := flowJ n (tl t)
def bracI (n : Nat) (t : Bs) : V × Bs × Int := bracJ n (tl t)
def head1 (c : UInt8) : Bs → Bool
 | [] => false
 | d :: _ => d == c
theorem has1_h (l : Bs) (c : UInt8) : AC Tryz.prog 28 [.str (toB l), .str ⟨#[c]⟩] (.bool (head1 c l)) := by
 have h := has_a (toB l) ⟨#[c]⟩
 rw [has1_toB] at h
 exact h
def OneOk (N : Nat) : Prop := ∀ (n : Nat) (ends s : Bs), s.length ≤ N → 2 * s.length + 1 ≤ n → AC Tryz.prog 168 [.str (toB s), .str (toB ends)] (fA (flowF n (.one ends) s))
theorem rowsV_snoc (l : List V) (x : V) : rowsV (l ++ [x]) = rowsV l ++ [cellsV x] := by
 induction l with
 | nil => simp [rowsV]
 | cons y l ih => simp [rowsV, ih]
theorem ext1 (c : UInt8) (u : Bs) : (toB (c :: u)).extract (1 : Int).toNat ((toB (c :: u)).size : Int).toNat = toB u := toB_from (c :: u) 1
theorem flow_a {N : Nat} (hP : OneOk N) (hN : N ≤ 1000000) (n : Nat) (t : Bs) (ht : t.length ≤ N) (hn : 2 * t.length + 2 ≤ n) : AC Tryz.prog 198 [.str (toB t)] (fA (flowI n t)) := by
 have hl := treeList_a
 have htl := tl_a t
 have htz := tl_len t
 have hp := has1_h (tl t) 93
 unfold flowI
 refine kE Tryz.func198 a_yaml_flow_ok a_yaml_flow_cb fun E hE => ?_
 refine kW ?_
 refine kQ [.v (.agg [.int .i64 4, .bool false, .int .i64 0, .str ⟨#[]⟩, .lst .nil 6 [], .lst .nil 7 []])] ?_
 refine kW ?_
 refine kQ [.v (.str (toB (tl t)))] ?_
 refine kW ?_
 generalize tl t = s0 at *
 refine kQ [.v (.bool (head1 93 s0))] ?_
 refine kC (fun hb => ?_) fun hb => ?_
 ·cases s0 with
  | nil => cases hb
  | cons d u =>
   have hd : d = 93 := by simpa [head1] using hb
   subst hd
   rw [flowJ, if_pos rfl]
   have h2 := tl_a u
   have hsz : (toB ((93 : UInt8) :: u)).size = u.length + 1 := rfl
   refine kW ?_
   refine kP [.v (.str (toB (tl u)))] ?_ ?_
   ·((repeat' apply And.intro) <;> first | exact kD | (intro hgd; refine ⟨?_, kG⟩; (repeat' apply And.intro) <;> first | exact kD | skip) | skip)
    all_goals first | (rw [hsz]; omega) | (rw [ext1]; exact h2) | skip
   refine kW ?_
   refine AK.ret ⟨_, rfl, ?_⟩
   rfl
 ·have hR : flowJ n s0 = flowF n (.flow []) s0 := by
   cases s0 with
   | nil => rfl
   | cons d u => exact if_neg (by simpa [head1] using hb)
  rw [hR]
  clear hR hb hp htl
  generalize hRR : flowF n (.flow []) s0 = R
  refine kW ?_
  refine AK.loopI (fun i : (Nat → Nat) × List V × Bs × Nat => (frOf [(0, .str (toB i.2.2.1)), (2, .ptr 2 0), (3, .str ⟨#[]⟩), (4, .int .i64 0), (5, .ptr 5 0)], ⟨boxOf [(2, [.int .i64 0, .bool false, .int .i64 0, .str ⟨#[]⟩, .lst .nil 6 [], .lst .nil 7 []], false), (5, [.int .i64 4, .bool false, .int .i64 0, .str ⟨#[]⟩, .lst (.own 32 (i.1 32)) 6 (rowsV i.2.1), .lst .nil 7 []], false)], i.1⟩))
   (fun i => flowF i.2.2.2 (.flow i.2.1) i.2.2.1 = R ∧ i.2.2.1.length ≤ N ∧ 2 * i.2.2.1.length + 2 ≤ i.2.2.2 ∧ sizeL i.2.1 + i.2.2.1.length ≤ N ∧ RdL i.2.1) (fun i => i.2.2.1.length) (fun _ => 0, [], s0, n) ⟨hRR, by dsimp only; omega, by dsimp only; omega, by dsimp only [sizeL]; omega, fun x hx => by cases hx⟩
   (Weak.intro ⟨kI, kI, kI, kI, kI, trivial⟩ ⟨kJ, ⟨_, rfl, .refl _, .refl _, .refl _, .refl _, .own _ _ _ _, .refl _, trivial⟩, trivial⟩ rfl rfl) fun ⟨r, out, s, m⟩ ⟨hR, hs, hm, hz, hrd⟩ => ?_
  dsimp only at hR hs hm hz hrd
  obtain ⟨m, rfl⟩ : ∃ k, m = k + 1 := ⟨m - 1, by omega⟩
  have hone := hP m [44, 93] s hs (by omega)
  have hok := flow_ok m (.one [44, 93]) s (by omega) (by simp only [FMsz]; omega) trivial
  have hunf : flowF (m + 1) (.flow out) s = (match flowF m (.one [44, 93]) s with
   | (v, rest, e) => if e ≠ 0 then (V.null, [], e) else match rest with
    | [] => (V.null, [], 10)
    | c :: u => if c = 93 then (vList (out ++ [v]), tl u, 0) else if c = 44 then flowF m (.flow (out ++ [v])) u else (V.null, [], 10)) := rfl
  rw [hunf] at hR
  generalize flowF m (.one [44, 93]) s = q at *
  obtain ⟨v, rest, e⟩ := q
  dsimp only at hR
  refine kW ?_
  refine kQ [.v (fA (v, rest, e))] ?_
  refine kW ?_
  refine kC (fun hb => ?_) fun hb => ?_
  ·have he : e ≠ 0 := by simpa using hb
   rw [if_pos he] at hR
   refine kW ?_
   refine AK.ret ⟨_, rfl, ?_⟩
   rw [← hR]
   rfl
  ·have he : e = 0 := by simpa using hb
   subst he
   rw [if_neg (by simp)] at hR
   have hf := hok.fit rfl
   simp only [FMsz] at hf
   have hll := len_le_sizeL out
   have hv1 := v.size_pos
   have hp1 := has1_h rest 93
   have hp2 := has1_h rest 44
   have hsz1 : sizeL (out ++ [v]) = sizeL out + v.size := by rw [sizeL_append]; simp [sizeL]
   refine kW ?_
   refine kP [] ?_ ?_
   ·((repeat' apply And.intro) <;> first | exact kD | (intro hgd; refine ⟨?_, kG⟩; (repeat' apply And.intro) <;> first | exact kD | skip) | skip)
    all_goals simp only [rowsV_len, List.length_nil, List.length_cons]
    all_goals omega
   refine kW ?_
   refine kQ [.v (.bool (head1 93 rest))] ?_
   cases rest with
   | nil =>
    refine kC (fun hb => ?_) fun hb => ?_
    ·cases hb
    ·refine kW ?_
     refine kQ [.v (.bool false)] ?_
     refine kW ?_
     refine kC (fun hb => ?_) fun hb => ?_
     ·refine kW ?_
      refine AK.ret ⟨_, rfl, ?_⟩
      rw [← hR]
      rfl
     ·simp at hb
   | cons c u =>
    have hsz : (toB (c :: u)).size = u.length + 1 := rfl
    have h2 := tl_a u
    simp only [List.length_cons] at hf
    dsimp only at hR
    refine kC (fun hb => ?_) fun hb => ?_
    ·have hc : c = 93 := by simpa [head1] using hb
     rw [if_pos hc] at hR
     refine kW ?_
     refine kP [.v (.str (toB (tl u)))] ?_ ?_
     ·((repeat' apply And.intro) <;> first | exact kD | (intro hgd; refine ⟨?_, kG⟩; (repeat' apply And.intro) <;> first | exact kD | skip) | skip)
      all_goals first | (rw [hsz]; omega) | (rw [ext1]; exact h2) | skip
     refine kW ?_
     refine AK.ret ⟨_, rfl, ?_⟩
     rw [← hR]
     have e1 := rowsV_snoc out v
     rw [cellsV_eq] at e1
     show _ = AV.tup [.agg [_, _, _, _, .lst .any 6 (rowsV (out ++ [v])), _], _, _]
     rw [e1]
     rfl
    ·have hc : c ≠ 93 := by simpa [head1] using hb
     rw [if_neg hc] at hR
     refine kW ?_
     refine kQ [.v (.bool (c == 44))] ?_
     by_cases h44 : c = 44
     ·rw [if_pos h44] at hR
      refine kW ?_
      refine kC (fun hb => ?_) fun hb => ?_
      ·simp [h44] at hb
      ·refine kW ?_
       refine kP [] ?_ ?_
       ·((repeat' apply And.intro) <;> first | exact kD | (intro hgd; refine ⟨?_, kG⟩; (repeat' apply And.intro) <;> first | exact kD | skip) | skip)
        all_goals (rw [hsz]; omega)
       refine kW ?_
       rw [ext1]
       refine AK.lp ⟨(_, out ++ [v], u, m), ⟨hR, by dsimp only; omega, by dsimp only; omega, by dsimp only; omega, hrd.snoc hok.ord hok.sb⟩, (Weak.intro ⟨kI, kI, kI, kI, kI, trivial⟩ ⟨kJ, ⟨_, rfl, .refl _, .refl _, .refl _, .refl _, ?_, .refl _, trivial⟩, trivial⟩ rfl rfl), by dsimp only; omega⟩
       rw [rowsV_snoc, cellsV_eq]
       exact .refl _
     ·rw [if_neg h44] at hR
      refine kW ?_
      refine kC (fun hb => ?_) fun hb => ?_
      ·refine kW ?_
       refine AK.ret ⟨_, rfl, ?_⟩
       rw [← hR]
       rfl
      ·simp [h44] at hb
theorem cpIn_a (s p : ByteArray) : AC Tryz.prog 215 [.str s, .str p] (.tup [.str (cutS s p), .bool (hasB s p)]) := by
 have h := hasIn_a s p
 refine kE Tryz.func215 a_stringslite_CutPrefix_ok a_stringslite_CutPrefix_cb fun E hE => ?_
 refine kW ?_
 refine kQ [.v (.bool (hasB s p))] ?_
 refine kW ?_
 refine kC (fun hb => ?_) fun hb => ?_
 ·have hq : hasB s p = false := by simpa using hb
  refine kW ?_
  refine AK.ret ⟨_, rfl, ?_⟩
  rw [cutS, if_neg (by rw [hq]; simp), hq]
  rfl
 ·have hq : hasB s p = true := by simpa using hb
  have hle : p.size ≤ s.size := by
   rw [hasB, Bool.and_eq_true, decide_eq_true_eq] at hq
   exact hq.1
  refine kW ?_
  refine kQ [] ?_
  refine kW ?_
  refine AK.ret ⟨_, rfl, ?_⟩
  rw [cutS, if_pos hq, hq]
  rfl
theorem cp_a (s p : ByteArray) : AC Tryz.prog 192 [.str s, .str p] (.tup [.str (cutS s p), .bool (hasB s p)]) := by
 have h := cpIn_a s p
 refine kE Tryz.func192 a_strings_CutPrefix_ok a_strings_CutPrefix_cb fun E hE => ?_
 refine kW ?_
 refine kQ [.v (.tup [.str (cutS s p), .bool (hasB s p)])] ?_
 refine kW ?_
 refine AK.ret ⟨_, rfl, ?_⟩
 rfl
theorem cutS_cons (c : UInt8) (l : Bs) (h : head1 c l = true) : ∃ u, l = c :: u ∧ cutS (toB l) ⟨#[c]⟩ = toB u := by
 cases l with
 | nil => cases h
 | cons d u =>
  have hd : d = c := by simpa [head1] using h
  subst hd
  refine ⟨u, rfl, ?_⟩
  rw [cutS, if_pos (by rw [has1_toB]; simp)]
  exact toB_from (d :: u) 1
theorem contains1 (l : Bs) (c : UInt8) (hl : l.length ≤ 1000000) : AC Tryz.prog 170 [.str (toB l), .str ⟨#[c]⟩] (.bool (l.contains c)) := by
 have h : AC Tryz.prog 170 [.str (toB l), .str ⟨#[c]⟩] (.bool (decide (0 ≤ Lib.indexByte l c))) := AC.of2 (by kernel_rfl) (fun _ => Rel1.bool _) fun w _ => Tryz.strings_Contains_one (toB l) c w
 rw [ix_mem] at h
 exact h
theorem cut1_a (l : Bs) (hl : l.length ≤ 1000000) : AC Tryz.prog 53 [.str (toB l), .str ⟨#[58]⟩] (if Lib.indexByte l 58 = -1 then .tup [.str (toB l), .str (toB []), .bool false] else .tup [.str (toB (l.take (Lib.indexByte l 58).toNat)), .str (toB (l.drop ((Lib.indexByte l 58).toNat + 1))), .bool true]) := by
 have h := cut_a (toB l) 58 (by rw [toB_size]; omega)
 rw [cutB, toB_list] at h
 rcases ixT_cases l 58 with ⟨h1, _⟩ | ⟨i, h1, h2, _⟩
 ·rw [h1] at h ⊢
  rw [if_pos rfl] at h ⊢
  exact h
 ·rw [h1] at h ⊢
  rw [if_neg (by omega)] at h ⊢
  simp only [Int.toNat_natCast] at h ⊢
  rw [toB_to l i (by omega), toB_from] at h
  exact h
def bracK (m : Nat) (out : List (ByteArray × V)) : Bs × Bs × Int → V × Bs × Int
 | (key, rest, k) => if k ≠ 0 then (V.null, [], k) else if (mfind (toB key) out).isSome = true then (V.null, [], 13) else match flowF m (.one [44, 125]) rest with
  | (v, more, e) => if e ≠ 0 then (V.null, [], e) else match more with
   | [] => (V.null, [], 10)
   | c :: u => if c = 125 then (vMap (minsert (toB key) v out), tl u, 0) else if c = 44 then flowF m (.braces (minsert (toB key) v out)) u else (V.null, [], 10)
theorem braces_a {N : Nat} (hP : OneOk N) (hN : N ≤ 1000000) (n : Nat) (t : Bs) (ht : t.length ≤ N) (hn : 2 * t.length + 2 ≤ n) : AC Tryz.prog 199 [.str (toB t)] (fA (bracI n t)) := by
 have hmm := treeMap_a [] (by simp [sizeM])
 have htl := tl_a t
 have htz := tl_len t
 have hp := has1_h (tl t) 125
 unfold bracI
 refine kE Tryz.func199 a_yaml_braces_ok a_yaml_braces_cb fun E hE => ?_
 refine kW ?_
 refine kQ [.v ((vA ((vMap []))))] ?_
 refine kW ?_
 refine kQ [.v (.str (toB (tl t)))] ?_
 refine kW ?_
 generalize tl t = s0 at *
 refine kQ [.v (.bool (head1 125 s0))] ?_
 refine kC (fun hb => ?_) fun hb => ?_
 ·cases s0 with
  | nil => cases hb
  | cons d u =>
   have hd : d = 125 := by simpa [head1] using hb
   subst hd
   rw [bracJ, if_pos rfl]
   have h2 := tl_a u
   have hsz : (toB ((125 : UInt8) :: u)).size = u.length + 1 := rfl
   refine kW ?_
   refine kP [.v (.str (toB (tl u)))] ?_ ?_
   ·((repeat' apply And.intro) <;> first | exact kD | (intro hgd; refine ⟨?_, kG⟩; (repeat' apply And.intro) <;> first | exact kD | skip) | skip)
    all_goals first | (rw [hsz]; omega) | (rw [ext1]; exact h2) | skip
   refine kW ?_
   refine AK.ret ⟨_, rfl, ?_⟩
   rfl
 ·have hR : bracJ n s0 = flowF n (.braces []) s0 := by
   cases s0 with
   | nil => rfl
   | cons d u => exact if_neg (by simpa [head1] using hb)
  rw [hR]
  clear hR hb hp htl
  generalize hRR : flowF n (.braces []) s0 = R
  refine kW ?_
  refine AK.loopI (fun i : List (ByteArray × V) × Bs × Nat => (frOf [(0, .str (toB i.2.1)), (2, .ptr 2 0), (3, .str ⟨#[]⟩), (4, .int .i64 0), (5, .ptr 5 0)], ⟨boxOf [(2, [.int .i64 0, .bool false, .int .i64 0, .str ⟨#[]⟩, .lst .nil 6 [], .lst .nil 7 []], false), (5, (vC ((vMap i.1))), false)], fun _ => 0⟩))
   (fun i => flowF i.2.2 (.braces i.1) i.2.1 = R ∧ i.2.1.length ≤ N ∧ 2 * i.2.1.length + 2 ≤ i.2.2 ∧ sizeM i.1 + i.2.1.length ≤ N ∧ RdM i.1) (fun i => i.2.1.length) ([], s0, n) ⟨hRR, by dsimp only; omega, by dsimp only; omega, by dsimp only [sizeM]; omega, List.Pairwise.nil, fun x hx => by cases hx⟩
   (Weak.intro ⟨kI, kI, kI, kI, kI, trivial⟩ ⟨kJ, kJ, trivial⟩ rfl rfl) fun ⟨out, s, m⟩ ⟨hR, hs, hm, hz, hrd⟩ => ?_
  dsimp only at hR hs hm hz hrd
  obtain ⟨m, rfl⟩ : ∃ k, m = k + 1 := ⟨m - 1, by omega⟩
  have htl := tl_a s
  have htz2 := tl_len s
  have hunf : flowF (m + 1) (.braces out) s = bracK m out (keyF (tl s)) := rfl
  rw [hunf] at hR
  clear hunf
  refine kW ?_
  refine kQ [.v (.str (toB (tl s)))] ?_
  refine kW ?_
  generalize tl s = s1 at *
  have hs1 : s1.length ≤ 1000000 := by omega
  have hct := cut1_a s1 hs1
  have hu := unquote_a (toB s1) (by rw [toB_size]; omega)
  rw [unq_eq, toB_list] at hu
  have hq := quoted_b s1
  obtain ⟨a, b, ok, hab, hct⟩ : ∃ a b ok, (if Lib.indexByte s1 58 = -1 then AV.tup [.str (toB s1), .str (toB []), .bool false] else .tup [.str (toB (s1.take (Lib.indexByte s1 58).toNat)), .str (toB (s1.drop ((Lib.indexByte s1 58).toNat + 1))), .bool true]) = .tup [.str (toB a), .str (toB b), .bool ok] ∧ (a.length ≤ s1.length ∧ AC Tryz.prog 53 [.str (toB s1), .str ⟨#[58]⟩] (.tup [.str (toB a), .str (toB b), .bool ok])) := by
   split
   ·rename_i hi; rw [if_pos hi] at hct; exact ⟨_, _, _, rfl, Nat.le_refl _, hct⟩
   ·rename_i hi; rw [if_neg hi] at hct; exact ⟨_, _, _, rfl, by rw [List.length_take]; omega, hct⟩
  obtain ⟨hal, hct⟩ := hct
  have htr := tr_a a (by omega)
  have hod := odd_a (tr a)
  have htrz := tr_len a
  have hc1 := contains1 (tr a) 44 (by omega)
  have hc2 := contains1 (tr a) 93 (by omega)
  have hc3 := contains1 (tr a) 125 (by omega)
  refine kQ [.v (.tup [.str (toB a), .str (toB b), .bool ok])] ?_
  refine kW ?_
  refine kQ [.v (.str (toB (tr a)))] ?_
  refine kW ?_
  refine kP [] ?_ ?_
  ·((repeat' apply And.intro) <;> first | exact kD | (intro hgd; refine ⟨?_, kG⟩; (repeat' apply And.intro) <;> first | exact kD | skip) | skip)
   all_goals
    cases s1 with
    | nil => simp [gd, ne_toB] at hgd
    | cons c l => rw [toB_size, List.length_cons]; omega
  refine kC (fun hb => ?_) fun hb => ?_
  ·rw [hq] at hb
   have hqt := hb
   refine kW ?_
   cases hx : unqL s1 with
   | none =>
    have hkf : keyF s1 = ([], [], 11) := by rw [keyF, if_pos hqt, hx]
    rw [hkf, bracK, if_pos (by decide)] at hR
    rw [hx] at hu
    simp only [qA] at hu
    refine kQ [.v (.tup [.str ⟨#[]⟩, .str ⟨#[]⟩, .int .i64 11])] ?_
    refine kW ?_
    refine kC (fun hb => ?_) fun hb => ?_
    ·refine kW ?_
     refine AK.ret ⟨_, rfl, ?_⟩
     rw [← hR]
     rfl
    ·simp at hb
   | some p =>
    obtain ⟨key, rest⟩ := p
    rw [hx] at hu
    simp only [qA] at hu
    have hz2 := unq_len hx
    have hcp := cp_a (toB rest) ⟨#[58]⟩
    refine kQ [.v (.tup [.str ⟨key.toArray⟩, .str ⟨rest.toArray⟩, .int .i64 0])] ?_
    refine kW ?_
    refine kC (fun hb => ?_) fun hb => ?_
    ·simp at hb
    ·refine kW ?_
     cases hh : head1 58 rest with
     | false =>
      have hh2 : hasB (toB rest) ⟨#[58]⟩ = false := by rw [has1_toB]; exact hh
      rw [hh2] at hcp
      have hkf : keyF s1 = ([], [], 10) := by
       rw [keyF, if_pos hqt, hx]
       cases rest with
       | nil => rfl
       | cons c r => simp [show ¬ c = 58 by simpa [head1] using hh]
      rw [hkf, bracK, if_pos (by decide)] at hR
      refine kQ [.v (.tup [.str (cutS (toB rest) ⟨#[58]⟩), .bool false])] ?_
      refine kW ?_
      refine kC (fun hb => ?_) fun hb => ?_
      ·refine kW ?_
       refine AK.ret ⟨_, rfl, ?_⟩
       rw [← hR]
       rfl
      ·simp at hb
     | true =>
      obtain ⟨u, rfl, hcu⟩ := cutS_cons 58 rest hh
      have hh2 : hasB (toB (58 :: u)) ⟨#[58]⟩ = true := by rw [has1_toB]; simp
      rw [hh2, hcu] at hcp
      simp only [List.length_cons] at hz2
      have hkf : keyF s1 = (key, u, 0) := by rw [keyF, if_pos hqt, hx]; simp
      rw [hkf, bracK, if_neg (by simp)] at hR
      refine kQ [.v (.tup [.str (toB u), .bool true])] ?_
      clear hcp hh hh2 hcu hu hct htr hod hc1 hc2 hc3 hq hkf hx hb
      generalize hrest : u = rest at *
      have hgt := treeGet_o (vMap out) (toB key) (vMap_ord hrd.1 fun p hp => (hrd.2 p hp).2.1) (by rw [vMap_size]; omega)
      refine kW ?_
      refine kC (fun hb => ?_) fun hb => ?_
      ·simp at hb
      ·refine kW ?_
       refine kQ [.v (.tup [(vA (((mfind (toB key) out).getD V.null))), .bool (mfind (toB key) out).isSome])] ?_
       refine kW ?_
       refine kC (fun hb => ?_) fun hb => ?_
       ·rw [if_pos hb] at hR
        refine kW ?_
        refine AK.ret ⟨_, rfl, ?_⟩
        rw [← hR]
        rfl
       ·rw [if_neg (by rw [hb]; simp)] at hR
        have hone := hP m [44, 125] rest (by omega) (by omega)
        have hok := flow_ok m (.one [44, 125]) rest (by omega) (by simp only [FMsz]; omega) trivial
        generalize flowF m (.one [44, 125]) rest = q at *
        obtain ⟨v, more, e⟩ := q
        dsimp only at hR
        refine kW ?_
        refine kQ [.v (fA (v, more, e))] ?_
        refine kW ?_
        refine kC (fun hb => ?_) fun hb => ?_
        ·have he : e ≠ 0 := by simpa using hb
         rw [if_pos he] at hR
         refine kW ?_
         refine AK.ret ⟨_, rfl, ?_⟩
         rw [← hR]
         rfl
        ·have he : e = 0 := by simpa using hb
         subst he
         rw [if_neg (by simp)] at hR
         have hf := hok.fit rfl
         simp only [FMsz] at hf
         have hv1 := v.size_pos
         have hp1 := has1_h more 125
         have hp2 := has1_h more 44
         have hpt := treePut_o (vMap out) (toB key) v (vMap_ord hrd.1 fun p hp => (hrd.2 p hp).2.1) (by rw [vMap_size]; omega)
         have hms := minsert_le (toB key) v out
         have hrd2 := hrd.put (k := toB key) (x := v) (by rw [toB_size]; omega) hok.ord hok.sb
         refine kW ?_
         refine kQ [.v ((vA ((vMap (minsert (toB key) v out)))))] ?_
         refine kW ?_
         refine kQ [.v (.bool (head1 125 more))] ?_
         cases more with
         | nil =>
          refine kC (fun hb => ?_) fun hb => ?_
          ·cases hb
          ·refine kW ?_
           refine kQ [.v (.bool false)] ?_
           refine kW ?_
           refine kC (fun hb => ?_) fun hb => ?_
           ·refine kW ?_
            refine AK.ret ⟨_, rfl, ?_⟩
            rw [← hR]
            rfl
           ·simp at hb
         | cons c u =>
          have hsz : (toB (c :: u)).size = u.length + 1 := rfl
          have h2 := tl_a u
          simp only [List.length_cons] at hf
          dsimp only at hR
          refine kC (fun hb => ?_) fun hb => ?_
          ·have hc : c = 125 := by simpa [head1] using hb
           rw [if_pos hc] at hR
           refine kW ?_
           refine kP [.v (.str (toB (tl u)))] ?_ ?_
           ·((repeat' apply And.intro) <;> first | exact kD | (intro hgd; refine ⟨?_, kG⟩; (repeat' apply And.intro) <;> first | exact kD | skip) | skip)
            all_goals first | (rw [hsz]; omega) | (rw [ext1]; exact h2) | skip
           refine kW ?_
           refine AK.ret ⟨_, rfl, ?_⟩
           rw [← hR]
           rfl
          ·have hc : c ≠ 125 := by simpa [head1] using hb
           rw [if_neg hc] at hR
           refine kW ?_
           refine kQ [.v (.bool (c == 44))] ?_
           by_cases h44 : c = 44
           ·rw [if_pos h44] at hR
            refine kW ?_
            refine kC (fun hb => ?_) fun hb => ?_
            ·simp [h44] at hb
            ·refine kW ?_
             refine kP [] ?_ ?_
             ·((repeat' apply And.intro) <;> first | exact kD | (intro hgd; refine ⟨?_, kG⟩; (repeat' apply And.intro) <;> first | exact kD | skip) | skip)
              all_goals (rw [hsz]; omega)
             refine kW ?_
             rw [ext1]
             exact AK.lp ⟨(minsert (toB key) v out, u, m), ⟨hR, by dsimp only; omega, by dsimp only; omega, by dsimp only; omega, hrd2⟩, (Weak.intro ⟨kI, kI, kI, kI, kI, trivial⟩ ⟨kJ, kJ, trivial⟩ rfl rfl), by dsimp only; omega⟩
           ·rw [if_neg h44] at hR
            refine kW ?_
            refine kC (fun hb => ?_) fun hb => ?_
            ·refine kW ?_
             refine AK.ret ⟨_, rfl, ?_⟩
             rw [← hR]
             rfl
            ·simp [h44] at hb
  ·rw [hq] at hb
   have hnq : ¬ quoted s1 = true := by rw [hb]; simp
   have hkf : keyF s1 = if Lib.indexByte s1 58 = -1 then ([], [], 10) else if ((tr (s1.take (Lib.indexByte s1 58).toNat)).isEmpty || oddL (tr (s1.take (Lib.indexByte s1 58).toNat)) || (tr (s1.take (Lib.indexByte s1 58).toNat)).contains 44 || (tr (s1.take (Lib.indexByte s1 58).toNat)).contains 93 || (tr (s1.take (Lib.indexByte s1 58).toNat)).contains 125) = true then ([], [], 10) else (tr (s1.take (Lib.indexByte s1 58).toNat), s1.drop ((Lib.indexByte s1 58).toNat + 1), 0) := by rw [keyF, if_neg hnq]
   have hkr := keyF_len (s := s1) (key := tr a) (rest := b)
   refine kW ?_
   refine kQ [.v (.bool (oddL (tr a))), .v (.bool ((tr a).contains 44)), .v (.bool ((tr a).contains 93)), .v (.bool ((tr a).contains 125))] ?_
   refine kC (fun hb => ?_) fun hb => ?_
   ·rw [ne_toB] at hb
    have hkf2 : keyF s1 = ([], [], 10) := by
     rw [hkf]
     split at hab
     ·rename_i hi; rw [if_pos hi]
     ·rename_i hi
      rw [if_neg hi]
      injection hab with hab
      injection hab with h1 hab
      injection h1 with h1
      have h1 := toB_inj.1 h1
      rw [h1, if_pos hb]
    rw [hkf2, bracK, if_pos (by decide)] at hR
    refine kW ?_
    refine kC (fun hb => ?_) fun hb => ?_
    ·refine kW ?_
     refine AK.ret ⟨_, rfl, ?_⟩
     rw [← hR]
     rfl
    ·simp at hb
   ·rw [ne_toB] at hb
    split at hab
    ·rename_i hi
     rw [if_pos hi] at hkf
     rw [hkf, bracK, if_pos (by decide)] at hR
     injection hab with hab
     injection hab with h1 hab
     injection hab with h2 hab
     injection hab with h3 hab
     injection h3 with h3
     subst h3
     refine kW ?_
     refine kC (fun hb => ?_) fun hb => ?_
     ·refine kW ?_
      refine AK.ret ⟨_, rfl, ?_⟩
      rw [← hR]
      rfl
     ·simp at hb
    ·rename_i hi
     rw [if_neg hi] at hkf
     injection hab with hab
     injection hab with h1 hab
     injection hab with h2 hab
     injection hab with h3 hab
     injection h1 with h1
     injection h2 with h2
     injection h3 with h3
     have h1 := toB_inj.1 h1
     have h2 := toB_inj.1 h2
     subst h3
     rw [h1, h2, if_neg (by rw [hb]; simp)] at hkf
     have hkl := hkr hkf
     rw [hkf, bracK, if_neg (by simp)] at hR
     clear hu hct htr hod hc1 hc2 hc3 hq hkf hkr hb h1 h2 hi
     generalize tr a = key at *
     generalize hrest : b = rest at *
     have hgt := treeGet_o (vMap out) (toB key) (vMap_ord hrd.1 fun p hp => (hrd.2 p hp).2.1) (by rw [vMap_size]; omega)
     refine kW ?_
     refine kC (fun hb => ?_) fun hb => ?_
     ·simp at hb
     ·refine kW ?_
      refine kQ [.v (.tup [(vA (((mfind (toB key) out).getD V.null))), .bool (mfind (toB key) out).isSome])] ?_
      refine kW ?_
      refine kC (fun hb => ?_) fun hb => ?_
      ·rw [if_pos hb] at hR
       refine kW ?_
       refine AK.ret ⟨_, rfl, ?_⟩
       rw [← hR]
       rfl
      ·rw [if_neg (by rw [hb]; simp)] at hR
       have hone := hP m [44, 125] rest (by omega) (by omega)
       have hok := flow_ok m (.one [44, 125]) rest (by omega) (by simp only [FMsz]; omega) trivial
       generalize flowF m (.one [44, 125]) rest = q at *
       obtain ⟨v, more, e⟩ := q
       dsimp only at hR
       refine kW ?_
       refine kQ [.v (fA (v, more, e))] ?_
       refine kW ?_
       refine kC (fun hb => ?_) fun hb => ?_
       ·have he : e ≠ 0 := by simpa using hb
        rw [if_pos he] at hR
        refine kW ?_
        refine AK.ret ⟨_, rfl, ?_⟩
        rw [← hR]
        rfl
       ·have he : e = 0 := by simpa using hb
        subst he
        rw [if_neg (by simp)] at hR
        have hf := hok.fit rfl
        simp only [FMsz] at hf
        have hv1 := v.size_pos
        have hp1 := has1_h more 125
        have hp2 := has1_h more 44
        have hpt := treePut_o (vMap out) (toB key) v (vMap_ord hrd.1 fun p hp => (hrd.2 p hp).2.1) (by rw [vMap_size]; omega)
        have hms := minsert_le (toB key) v out
        have hrd2 := hrd.put (k := toB key) (x := v) (by rw [toB_size]; omega) hok.ord hok.sb
        refine kW ?_
        refine kQ [.v ((vA ((vMap (minsert (toB key) v out)))))] ?_
        refine kW ?_
        refine kQ [.v (.bool (head1 125 more))] ?_
        cases more with
        | nil =>
         refine kC (fun hb => ?_) fun hb => ?_
         ·cases hb
         ·refine kW ?_
          refine kQ [.v (.bool false)] ?_
          refine kW ?_
          refine kC (fun hb => ?_) fun hb => ?_
          ·refine kW ?_
           refine AK.ret ⟨_, rfl, ?_⟩
           rw [← hR]
           rfl
          ·simp at hb
        | cons c u =>
         have hsz : (toB (c :: u)).size = u.length + 1 := rfl
         have h2 := tl_a u
         simp only [List.length_cons] at hf
         dsimp only at hR
         refine kC (fun hb => ?_) fun hb => ?_
         ·have hc : c = 125 := by simpa [head1] using hb
          rw [if_pos hc] at hR
          refine kW ?_
          refine kP [.v (.str (toB (tl u)))] ?_ ?_
          ·((repeat' apply And.intro) <;> first | exact kD | (intro hgd; refine ⟨?_, kG⟩; (repeat' apply And.intro) <;> first | exact kD | skip) | skip)
           all_goals first | (rw [hsz]; omega) | (rw [ext1]; exact h2) | skip
          refine kW ?_
          refine AK.ret ⟨_, rfl, ?_⟩
          rw [← hR]
          rfl
         ·have hc : c ≠ 125 := by simpa [head1] using hb
          rw [if_neg hc] at hR
          refine kW ?_
          refine kQ [.v (.bool (c == 44))] ?_
          by_cases h44 : c = 44
          ·rw [if_pos h44] at hR
           refine kW ?_
           refine kC (fun hb => ?_) fun hb => ?_
           ·simp [h44] at hb
           ·refine kW ?_
            refine kP [] ?_ ?_
            ·((repeat' apply And.intro) <;> first | exact kD | (intro hgd; refine ⟨?_, kG⟩; (repeat' apply And.intro) <;> first | exact kD | skip) | skip)
             all_goals (rw [hsz]; omega)
            refine kW ?_
            rw [ext1]
            exact AK.lp ⟨(minsert (toB key) v out, u, m), ⟨hR, by dsimp only; omega, by dsimp only; omega, by dsimp only; omega, hrd2⟩, (Weak.intro ⟨kI, kI, kI, kI, kI, trivial⟩ ⟨kJ, kJ, trivial⟩ rfl rfl), by dsimp only; omega⟩
          ·rw [if_neg h44] at hR
           refine kW ?_
           refine kC (fun hb => ?_) fun hb => ?_
           ·refine kW ?_
            refine AK.ret ⟨_, rfl, ?_⟩
            rw [← hR]
            rfl
           ·simp [h44] at hb
def oneK (m : Nat) (ends : Bs) : Bs → V × Bs × Int
 | [] => (V.null, [], 10)
 | c :: t => if c = 91 then flowI m t else if c = 123 then bracI m t else if isQ c = true then (match unqL (c :: t) with
   | none => (V.str ⟨#[]⟩, [], 11)
   | some (x, rest) => (V.str (toB x), tl rest, 0))
  else if badWord (tr ((c :: t).take (endAt ends (c :: t)))) = true then (V.null, [], 10)
  else ((scalP (toB (tr ((c :: t).take (endAt ends (c :: t)))))).1, (c :: t).drop (endAt ends (c :: t)), (scalP (toB (tr ((c :: t).take (endAt ends (c :: t)))))).2)
theorem oneK_eq (m : Nat) (ends s : Bs) : flowF (m + 1) (.one ends) s = oneK m ends (tl s) := by
 rw [flowF]
 generalize tl s = s1
 cases s1 with
 | nil => rfl
 | cons c t =>
  simp only [oneK, flowI, bracI]
  split
  ·generalize tl t = u
   cases u <;> rfl
  ·split
   ·generalize tl t = u
    cases u <;> rfl
   ·rfl
theorem tw_len (p : UInt8 → Bool) : ∀ (l : Bs) (i : Nat), i ≤ l.length → (∀ j c, j < i → l[j]? = some c → p c = true) → (∀ c, l[i]? = some c → p c = false) → (l.takeWhile p).length = i
 | [], i, h, _, _ => by simp at h; subst h; rfl
 | d :: l, 0, _, _, h2 => by rw [List.takeWhile_cons, if_neg (by rw [h2 d rfl]; simp)]; rfl
 | d :: l, i + 1, h, h1, h2 => by
  rw [List.takeWhile_cons, if_pos (h1 0 d (by omega) rfl), List.length_cons, tw_len p l i (by simpa using h) (fun j c hj hc => h1 (j + 1) c (by omega) (by simpa using hc)) (fun c hc => h2 c (by simpa using hc))]
theorem one_step (s ends : Bs) (n : Nat) (hs : s.length ≤ 1000000) (hn : 2 * s.length + 1 ≤ n) (hF : ∀ n t, t.length < s.length → 2 * t.length + 2 ≤ n → AC Tryz.prog 198 [.str (toB t)] (fA (flowI n t)))
  (hB : ∀ n t, t.length < s.length → 2 * t.length + 2 ≤ n → AC Tryz.prog 199 [.str (toB t)] (fA (bracI n t))) : AC Tryz.prog 168 [.str (toB s), .str (toB ends)] (fA (flowF n (.one ends) s)) := by
 obtain ⟨m, rfl⟩ : ∃ k, n = k + 1 := ⟨n - 1, by omega⟩
 rw [oneK_eq]
 have htl := tl_a s
 have htz := tl_len s
 refine kE Tryz.func168 a_yaml_one_ok a_yaml_one_cb fun E hE => ?_
 refine kW ?_
 refine kQ [.v (.str (toB (tl s)))] ?_
 refine kW ?_
 generalize tl s = s1 at *
 have hs1 : s1.length ≤ 1000000 := by omega
 generalize hR : oneK m ends s1 = R
 have hp1 := has1_h s1 91
 have hp2 := has1_h s1 123
 refine kQ [.v (.bool (head1 91 s1))] ?_
 refine kW ?_
 refine kC (fun hb => ?_) fun hb => ?_
 ·cases s1 with
  | nil => cases hb
  | cons c t =>
   have hc : c = 91 := by simpa [head1] using hb
   simp only [List.length_cons] at htz
   rw [oneK, if_pos hc] at hR
   have hf := hF m t (by omega) (by omega)
   have hsz : (toB (c :: t)).size = t.length + 1 := rfl
   refine kW ?_
   refine kP [.v (fA (flowI m t))] ?_ ?_
   ·((repeat' apply And.intro) <;> first | exact kD | (intro hgd; refine ⟨?_, kG⟩; (repeat' apply And.intro) <;> first | exact kD | skip) | skip)
    all_goals first | (rw [hsz]; omega) | (rw [ext1]; exact hf) | skip
   refine kW ?_
   refine AK.ret ⟨_, rfl, ?_⟩
   rw [← hR]
   rfl
 ·have hb1 := hb
  refine kW ?_
  refine kQ [.v (.bool (head1 123 s1))] ?_
  refine kW ?_
  refine kC (fun hb => ?_) fun hb => ?_
  ·cases s1 with
   | nil => cases hb
   | cons c t =>
    have hc : c = 123 := by simpa [head1] using hb
    have hc1 : ¬ c = 91 := by simpa [head1] using hb1
    simp only [List.length_cons] at htz
    rw [oneK, if_neg hc1, if_pos hc] at hR
    have hf := hB m t (by omega) (by omega)
    have hsz : (toB (c :: t)).size = t.length + 1 := rfl
    refine kW ?_
    refine kP [.v (fA (bracI m t))] ?_ ?_
    ·((repeat' apply And.intro) <;> first | exact kD | (intro hgd; refine ⟨?_, kG⟩; (repeat' apply And.intro) <;> first | exact kD | skip) | skip)
     all_goals first | (rw [hsz]; omega) | (rw [ext1]; exact hf) | skip
    refine kW ?_
    refine AK.ret ⟨_, rfl, ?_⟩
    rw [← hR]
    rfl
  ·have hb2 := hb
   have hq := quoted_b s1
   have hu := unquote_a (toB s1) (by rw [toB_size]; omega)
   rw [unq_eq, toB_list] at hu
   refine kW ?_
   refine kP [] ?_ ?_
   ·((repeat' apply And.intro) <;> first | exact kD | (intro hgd; refine ⟨?_, kG⟩; (repeat' apply And.intro) <;> first | exact kD | skip) | skip)
    all_goals
     cases s1 with
     | nil => simp [gd, ne_toB] at hgd
     | cons c l => rw [toB_size, List.length_cons]; omega
   refine kC (fun hb => ?_) fun hb => ?_
   ·rw [hq] at hb
    cases s1 with
    | nil => cases hb
    | cons c t =>
     have hc1 : ¬ c = 91 := by simpa [head1] using hb1
     have hc2 : ¬ c = 123 := by simpa [head1] using hb2
     have hqc : isQ c = true := hb
     rw [oneK, if_neg hc1, if_neg hc2, if_pos hqc] at hR
     refine kW ?_
     cases hx : unqL (c :: t) with
     | none =>
      rw [hx] at hu hR
      simp only [qA] at hu
      dsimp only at hR
      have h1 := treeStr_a ⟨#[]⟩
      have h2 := tl_a []
      refine kQ [.v (.tup [.str ⟨#[]⟩, .str ⟨#[]⟩, .int .i64 11])] ?_
      refine kW ?_
      refine kQ [.v ((vA ((V.str ⟨#[]⟩)))), .v (.str (toB (tl [])))] ?_
      refine kW ?_
      refine AK.ret ⟨_, rfl, ?_⟩
      rw [← hR]
      rfl
     | some p =>
      obtain ⟨x, rest⟩ := p
      rw [hx] at hu hR
      simp only [qA] at hu
      dsimp only at hR
      have h1 := treeStr_a (toB x)
      have h2 := tl_a rest
      refine kQ [.v (.tup [.str ⟨x.toArray⟩, .str ⟨rest.toArray⟩, .int .i64 0])] ?_
      refine kW ?_
      refine kQ [.v ((vA ((V.str (toB x))))), .v (.str (toB (tl rest)))] ?_
      refine kW ?_
      refine AK.ret ⟨_, rfl, ?_⟩
      rw [← hR]
      rfl
   ·rw [hq] at hb
    have hR2 : (if badWord (tr (s1.take (endAt ends s1))) = true then (V.null, [], (10 : Int)) else ((scalP (toB (tr (s1.take (endAt ends s1))))).1, s1.drop (endAt ends s1), (scalP (toB (tr (s1.take (endAt ends s1))))).2)) = R := by
     rw [← hR]
     cases s1 with
     | nil =>
      have h0 : endAt ends [] = 0 := by unfold endAt; split <;> rfl
      rw [h0, if_pos (by rfl)]
      rfl
     | cons c t =>
      have hc1 : ¬ c = 91 := by simpa [head1] using hb1
      have hc2 : ¬ c = 123 := by simpa [head1] using hb2
      have hqc : ¬ isQ c = true := by rw [show isQ c = false from hb]; simp
      rw [oneK, if_neg hc1, if_neg hc2, if_neg hqc]
    clear hR hb hq hu hb1 hb2 hp1 hp2 htl hF hB
    have hR := hR2
    clear hR2
    have hne := ne_toB ends
    refine kW ?_
    refine kC (fun hb => ?_) fun hb => ?_
    ·rw [hne] at hb
     have hends : ends ≠ [] := by intro h; subst h; simp at hb
     have hE : endAt ends s1 = (s1.takeWhile fun c => !ends.contains c).length := by rw [endAt, if_neg hends]
     rw [hE] at hR
     refine kW ?_
     refine AK.loopI (fun i : Nat => (frOf [(0, .str (toB s1)), (1, .str (toB ends)), (4, .ptr 4 0), (5, .str ⟨#[]⟩), (6, .int .i64 0), (10, .int .i64 i)], ⟨boxOf [(4, [.int .i64 0, .bool false, .int .i64 0, .str ⟨#[]⟩, .lst .nil 6 [], .lst .nil 7 []], false)], fun _ => 0⟩)) (fun i => i ≤ s1.length ∧ ∀ j c, j < i → s1[j]? = some c → (!ends.contains c) = true) (fun i => s1.length - i) 0 ⟨by omega, fun j c hj => by omega⟩ (Weak.intro ⟨kI, kI, kI, kI, kI, kI, trivial⟩ ⟨kJ, trivial⟩ rfl rfl) fun i ⟨hi, hall⟩ => ?_
     refine kW ?_
     by_cases hlt : i < s1.length
     ·obtain ⟨c, hc⟩ : ∃ c, s1[i]? = some c := ⟨_, List.getElem?_eq_getElem hlt⟩
      have hat : (toB s1).data.getD (i : Int).toNat 0 = c := toB_at (by simpa using hc)
      have hix := ixB_a ends c
      have him := ix_mem ends c
      refine kP [.v (.int .i64 (Lib.indexByte ends c))] ?_ ?_
      ·((repeat' apply And.intro) <;> first | exact kD | (intro hgd; refine ⟨?_, kG⟩; (repeat' apply And.intro) <;> first | exact kD | skip) | skip)
       all_goals first | (rw [toB_size]; omega) | (rw [hat]; exact hix) | skip
      have hz : decide ((i : Int) < (toB s1).size) = true := by rw [toB_size]; simpa using hlt
      rw [hz]
      cases hcon : ends.contains c with
      | true =>
       rw [hcon] at him
       have h0 : 0 ≤ Lib.indexByte ends c := by simpa using him
       refine kC (fun hb => ?_) fun hb => ?_
       ·exfalso
        have : Lib.indexByte ends c < 0 := by simpa using hb
        omega
       ·have he := tw_len (fun c => !ends.contains c) s1 i hi hall (fun d hd => by rw [hc] at hd; cases hd; rw [hcon]; rfl)
        rw [he] at hR
        refine AK.exit rfl ?_
        have hwl := tr_len (s1.take i)
        have hwz : (tr (s1.take i)).length ≤ 1000000 := by rw [List.length_take] at hwl; omega
        have htr := tr_a (s1.take i) (by rw [List.length_take]; omega)
        have hod := odd_a (tr (s1.take i))
        have hco := contains_a (tr (s1.take i)) [58, 32] hwz
        have hsu := suff_a (tr (s1.take i)) [58] hwz
        have hsc := scal_a (toB (tr (s1.take i))) (by rw [toB_size]; omega)
        have hne2 := ne_toB (tr (s1.take i))
        refine kW ?_
        refine kP [.v (.str (toB (tr (s1.take i))))] ?_ ?_
        ·((repeat' apply And.intro) <;> first | exact kD | (intro hgd; refine ⟨?_, kG⟩; (repeat' apply And.intro) <;> first | exact kD | skip) | skip)
         all_goals first | (rw [toB_size]; omega) | (rw [toB_toI _ _ (by omega)]; exact htr) | skip
        refine kW ?_
        generalize hw : tr (s1.take i) = w at *
        refine kQ [.v (.bool (oddL w)), .v (.bool (Lib.contains w [58, 32])), .v (.bool (Lib.hasSuffix w [58]))] ?_
        refine kC (fun hb => ?_) fun hb => ?_
        ·rw [hne2] at hb
         rw [if_pos (show badWord w = true from hb)] at hR
         refine kW ?_
         refine AK.ret ⟨_, rfl, ?_⟩
         rw [← hR]
         rfl
        ·rw [hne2] at hb
         rw [if_neg (show ¬ badWord w = true by rw [show badWord w = false from hb]; simp)] at hR
         refine kW ?_
         refine kQ [.v (.tup [(vA ((scalP (toB w)).1)), .int .i64 (scalP (toB w)).2])] ?_
         refine kW ?_
         refine kP [] ?_ ?_
         ·((repeat' apply And.intro) <;> first | exact kD | (intro hgd; refine ⟨?_, kG⟩; (repeat' apply And.intro) <;> first | exact kD | skip) | skip)
          all_goals (rw [toB_size]; omega)
         refine kW ?_
         refine AK.ret ⟨_, rfl, ?_⟩
         rw [toB_fromI, ← hR]
         rfl
      | false =>
       rw [hcon] at him
       have h0 : Lib.indexByte ends c < 0 := by simpa using him
       refine kC (fun hb => ?_) fun hb => ?_
       ·refine kW ?_
        exact AK.lp ⟨i + 1, ⟨by omega, fun j d hj hd => by
         by_cases e : j = i
         ·subst e; rw [hc] at hd; cases hd; rw [hcon]; rfl
         ·exact hall j d (by omega) hd⟩, (Weak.intro ⟨kI, kI, kI, kI, kI, kU, trivial⟩ ⟨kJ, trivial⟩ rfl rfl), by omega⟩
       ·exfalso
        have : ¬ Lib.indexByte ends c < 0 := by simpa using hb
        omega
     ·have hz : decide ((i : Int) < (toB s1).size) = false := by rw [toB_size]; simpa using hlt
      refine kP [.v (.int .i64 0)] ?_ ?_
      ·((repeat' apply And.intro) <;> first | exact kD | (intro hgd; refine ⟨?_, kG⟩; (repeat' apply And.intro) <;> first | exact kD | skip) | skip)
       all_goals (exfalso; rw [hz] at hgd; simp [gd] at hgd)
      rw [hz]
      refine kC (fun hb => ?_) fun hb => ?_
      ·cases hb
      ·have he := tw_len (fun c => !ends.contains c) s1 i hi hall (fun d hd => by have := (List.getElem?_eq_some_iff.1 hd).1; omega)
       rw [he] at hR
       refine AK.exit rfl ?_
       have hwl := tr_len (s1.take i)
       have hwz : (tr (s1.take i)).length ≤ 1000000 := by rw [List.length_take] at hwl; omega
       have htr := tr_a (s1.take i) (by rw [List.length_take]; omega)
       have hod := odd_a (tr (s1.take i))
       have hco := contains_a (tr (s1.take i)) [58, 32] hwz
       have hsu := suff_a (tr (s1.take i)) [58] hwz
       have hsc := scal_a (toB (tr (s1.take i))) (by rw [toB_size]; omega)
       have hne2 := ne_toB (tr (s1.take i))
       refine kW ?_
       refine kP [.v (.str (toB (tr (s1.take i))))] ?_ ?_
       ·((repeat' apply And.intro) <;> first | exact kD | (intro hgd; refine ⟨?_, kG⟩; (repeat' apply And.intro) <;> first | exact kD | skip) | skip)
        all_goals first | (rw [toB_size]; omega) | (rw [toB_toI _ _ (by omega)]; exact htr) | skip
       refine kW ?_
       generalize hw : tr (s1.take i) = w at *
       refine kQ [.v (.bool (oddL w)), .v (.bool (Lib.contains w [58, 32])), .v (.bool (Lib.hasSuffix w [58]))] ?_
       refine kC (fun hb => ?_) fun hb => ?_
       ·rw [hne2] at hb
        rw [if_pos (show badWord w = true from hb)] at hR
        refine kW ?_
        refine AK.ret ⟨_, rfl, ?_⟩
        rw [← hR]
        rfl
       ·rw [hne2] at hb
        rw [if_neg (show ¬ badWord w = true by rw [show badWord w = false from hb]; simp)] at hR
        refine kW ?_
        refine kQ [.v (.tup [(vA ((scalP (toB w)).1)), .int .i64 (scalP (toB w)).2])] ?_
        refine kW ?_
        refine kP [] ?_ ?_
        ·((repeat' apply And.intro) <;> first | exact kD | (intro hgd; refine ⟨?_, kG⟩; (repeat' apply And.intro) <;> first | exact kD | skip) | skip)
         all_goals (rw [toB_size]; omega)
        refine kW ?_
        refine AK.ret ⟨_, rfl, ?_⟩
        rw [toB_fromI, ← hR]
        rfl
    ·rw [hne] at hb
     have hends : ends = [] := by simpa [List.isEmpty_iff] using hb
     have hE : endAt ends s1 = s1.length := by rw [endAt, if_pos hends]
     rw [hE] at hR
     have hszz : ((toB s1).size : Int) = (s1.length : Int) := rfl
     rw [hszz]
     have hwl := tr_len (s1.take (s1.length))
     have hwz : (tr (s1.take (s1.length))).length ≤ 1000000 := by rw [List.length_take] at hwl; omega
     have htr := tr_a (s1.take (s1.length)) (by rw [List.length_take]; omega)
     have hod := odd_a (tr (s1.take (s1.length)))
     have hco := contains_a (tr (s1.take (s1.length))) [58, 32] hwz
     have hsu := suff_a (tr (s1.take (s1.length))) [58] hwz
     have hsc := scal_a (toB (tr (s1.take (s1.length)))) (by rw [toB_size]; omega)
     have hne2 := ne_toB (tr (s1.take (s1.length)))
     refine kW ?_
     refine kP [.v (.str (toB (tr (s1.take (s1.length)))))] ?_ ?_
     ·((repeat' apply And.intro) <;> first | exact kD | (intro hgd; refine ⟨?_, kG⟩; (repeat' apply And.intro) <;> first | exact kD | skip) | skip)
      all_goals first | (rw [toB_size]; omega) | (rw [toB_toI _ _ (by omega)]; exact htr) | skip
     refine kW ?_
     generalize hw : tr (s1.take (s1.length)) = w at *
     refine kQ [.v (.bool (oddL w)), .v (.bool (Lib.contains w [58, 32])), .v (.bool (Lib.hasSuffix w [58]))] ?_
     refine kC (fun hb => ?_) fun hb => ?_
     ·rw [hne2] at hb
      rw [if_pos (show badWord w = true from hb)] at hR
      refine kW ?_
      refine AK.ret ⟨_, rfl, ?_⟩
      rw [← hR]
      rfl
     ·rw [hne2] at hb
      rw [if_neg (show ¬ badWord w = true by rw [show badWord w = false from hb]; simp)] at hR
      refine kW ?_
      refine kQ [.v (.tup [(vA ((scalP (toB w)).1)), .int .i64 (scalP (toB w)).2])] ?_
      refine kW ?_
      refine kP [] ?_ ?_
      ·((repeat' apply And.intro) <;> first | exact kD | (intro hgd; refine ⟨?_, kG⟩; (repeat' apply And.intro) <;> first | exact kD | skip) | skip)
       all_goals (rw [toB_size]; omega)
      refine kW ?_
      refine AK.ret ⟨_, rfl, ?_⟩
      rw [toB_fromI, ← hR]
      rfl
theorem one_ok : ∀ N, N ≤ 1000000 → OneOk N
 | 0, _ => fun n ends s hs hn => one_step s ends n (by omega) hn (fun n t ht => by omega) (fun n t ht => by omega)
 | N + 1, hN => fun n ends s hs hn => one_step s ends n (by omega) hn (fun n t ht hn => flow_a (one_ok N (by omega)) (by omega) n t (by omega) hn) (fun n t ht hn => braces_a (one_ok N (by omega)) (by omega) n t (by omega) hn)
end Go.Proofs.YtnpkejnaeemgjaaGreatDoor
