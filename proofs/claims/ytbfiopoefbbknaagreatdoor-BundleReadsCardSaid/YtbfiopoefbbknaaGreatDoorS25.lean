/-
  The texts that the claim wants, one behind the other: part 25.
-/
import Derived.Test.YtbfiopoefbbknaaGreatDoorS24
import Derived.Shelf.Strings.LastIndex
set_option linter.unusedSimpArgs false
set_option linter.unusedVariables false
namespace Go.Proofs.YtbfiopoefbbknaaGreatDoor
open Go.RowKit
theorem heldF : Tryz.prog.stoodInHeld 46 = false := by kernel_rfl
theorem guardF : Tryz.prog.eqGuardType Tryz.prog.depth 46 = false := by kernel_rfl
theorem tl_iff2 (a b : ByteArray) : a.toList = b.toList ↔ a = b := ⟨LastIndex.eq_of_toList, fun h => by rw [h]⟩
theorem eqF_any (a b d e : ByteArray) : EqRun Tryz.prog true 46 [.string a, .string b] [.string d, .string e] (eqCells [.str a, .str b] [.str d, .str e]) := by
 intro w x y
 constructor
 ·simp [go_sem, eqGuard, eqOp, guardF]
 ·simp [go_sem, eqOp, heldF, eqCells, tl_iff2]
  by_cases h1 : a = d <;> by_cases h2 : b = e <;> simp [h1, h2]
theorem eqCells_two (a b d e : ByteArray) : eqCells [.str a, .str b] [.str d, .str e] = decide ((a, b) = (d, e)) := by
 simp [eqCells]
theorem same_a (a b : List Fl) (ha : a.length ≤ 4398046511104) (hb0 : b.length ≤ 4398046511104) : AC Tryz.prog 11 [.lst .any 2 (rowsF a), .lst .any 2 (rowsF b)] (.bool (decide (a = b))) := by
 refine kE Tryz.func11 a_law10_Same_ok a_law10_Same_cb fun E hE => ?_
 refine kW ?_
 refine kC (fun hb => ?_) fun hb => ?_
 ·have hne : a ≠ b := by
   rintro rfl
   simp at hb
  refine kW ?_
  refine AK.ret ⟨_, rfl, ?_⟩
  rw [decide_eq_false hne]
  rfl
 have hlen : a.length = b.length := by
  have : ¬ ¬ ((rowsF a).length : Int) = (rowsF b).length := by simpa using hb
  rw [rowsF_len, rowsF_len] at this
  omega
 refine kW ?_
 refine AK.loopI (fun k : Nat => (frOf [(0, .lst .any 2 (rowsF a)), (1, .lst .any 2 (rowsF b)), (12, .int .i64 (rowsF a).length), (13, .int .i64 k)], ⟨boxOf [], fun _ => 0⟩)) (fun k => k ≤ a.length ∧ ∀ j, j < k → a[j]? = b[j]?) (fun k => a.length - k) 0 ⟨Nat.zero_le _, fun j h => by omega⟩ (Weak.intro ⟨kI, kI, kI, kI, trivial⟩ trivial rfl rfl) fun k ⟨hk, hno⟩ => ?_
 refine kW ?_
 refine kC (fun hb => ?_) fun hb => ?_
 ·have hlt : k < a.length := by simpa [rowsF_len] using hb
  obtain ⟨p, hg⟩ : ∃ x, a[k]? = some x := ⟨_, List.getElem?_eq_getElem hlt⟩
  obtain ⟨q, hq⟩ : ∃ x, b[k]? = some x := ⟨_, List.getElem?_eq_getElem (by omega)⟩
  refine kW ?_
  refine kP [.c [.str p.1, .str p.2], .c [.str q.1, .str q.2]] ?_ ?_
  ·((repeat' apply And.intro) <;> first | exact kD | (intro hgd; refine ⟨?_, kG⟩; (repeat' apply And.intro) <;> first | exact kD | skip) | skip)
   all_goals first | exact rowsF_at hg | exact rowsF_at hq | exact eqF_any _ _ _ _ | skip
  rw [eqCells_two]
  refine kC (fun hb => ?_) fun hb => ?_
  ·have hne : a ≠ b := by
    rintro rfl
    rw [hg] at hq
    cases hq
    simp at hb
   refine kW ?_
   refine AK.ret ⟨_, rfl, ?_⟩
   rw [decide_eq_false hne]
   rfl
  ·have h2 : p.1 = q.1 ∧ p.2 = q.2 := by simpa using hb
   have he : p = q := Prod.ext h2.1 h2.2
   refine kW ?_
   exact AK.lp ⟨k + 1, ⟨by omega, fun j h => by
    by_cases e : j = k
    ·subst e; rw [hg, hq, he]
    ·exact hno j (by omega)⟩, Weak.intro ⟨kI, kI, kI, kU, trivial⟩ trivial rfl rfl, by omega⟩
 ·have hlt : a.length ≤ k := by simpa [rowsF_len] using hb
  have he : a = b := List.ext_getElem? fun j => by
   by_cases h : j < k
   ·exact hno j h
   ·rw [List.getElem?_eq_none (by omega), List.getElem?_eq_none (by omega)]
  refine AK.exit rfl ?_
  refine kW ?_
  refine AK.ret ⟨_, rfl, ?_⟩
  rw [decide_eq_true he]
  rfl
theorem pack_size (l : List Fl) (h : (packP nameC 22 emitP l).2 = 0) : (packP nameC 22 emitP l).1.size ≤ 65536 := by
 unfold packP at h ⊢
 split at h
 ·cases h
 rename_i h1
 split at h
 ·rename_i h2; exact absurd h h2
 rename_i h2
 split at h
 ·cases h
 rename_i h3
 rw [if_neg h1, if_neg h2, if_neg h3]
 exact Nat.le_of_not_lt h3
theorem bundlePacks_a (l : List Fl) (hl : l.length ≤ 4398046511103) (hp : ∀ p ∈ l, p.1.size ≤ 140737488355328 ∧ p.2.size ≤ 140737488355328) : AC Tryz.prog 3 [.lst .any 2 (rowsF l)] (.bool true) := by
 have hL := light_a l (by omega)
 have hA := awake22_a
 refine kE Tryz.func3 a_law22_BundlePacks_ok a_law22_BundlePacks_cb fun E hE => ?_
 refine kW ?_
 refine kQ [.v (.bool (decide (lightN l l.length ≤ 3000)))] ?_
 refine kC (fun hb => ?_) fun hb => ?_
 ·refine kW ?_
  refine kQ [.v (.bool true)] ?_
  refine kW ?_
  refine AK.ret ⟨_, rfl, ?_⟩
  rfl
 have hlt : lightN l l.length ≤ 3000 := by simpa using hb
 have hP := pack_a l hl (fun h32 => light_small h32 hp hlt)
 have hR := refPack_a l hl (fun h32 => light_sum3 h32 hp hlt)
 have hps := pack_size l
 have hpb := packs_back (l := l)
 generalize packP nameC 22 emitP l = R at *
 obtain ⟨s, e⟩ := R
 dsimp only at hP hR hps hpb
 refine kW ?_
 refine kQ [.v (.tup [.str s, .int .i64 e])] ?_
 refine kW ?_
 refine kQ [.v (.tup [.str s, .int .i64 e])] ?_
 refine kW ?_
 refine kQ [] ?_
 refine kC (fun hb => ?_) fun hb => ?_
 ·simp at hb
 refine kW ?_
 refine kC (fun hb => ?_) fun hb => ?_
 ·refine kW ?_
  refine kQ [.v (.bool true)] ?_
  refine kW ?_
  refine AK.ret ⟨_, rfl, ?_⟩
  rfl
 have he : e = 0 := by simpa using hb
 obtain ⟨h32, _, _, _, hU⟩ := hpb he
 have hz := hps he
 have hUn := unpack_a s
 rw [hU] at hUn
 have hS := sorted_a l (by omega)
 have hsm := same_a (sortF l) (sortF l) (by rw [sortF_len]; omega) (by rw [sortF_len]; omega)
 rw [decide_eq_true rfl] at hsm
 have hs1 := sum_a s (by omega)
 have hs2 := refSum_a s (by omega)
 clear hU hp hP hR hL
 refine kW ?_
 refine kQ [.v (.tup [.lst .any 2 (rowsF (sortF l)), .int .i64 0])] ?_
 refine kW ?_
 refine kQ [.v (.bool true), .v (.lst .any 2 (rowsF (sortF l))), .v (.bool true), .v (.int .u64 (sumI s s.size)), .v (.int .u64 (sumI s s.size))] ?_
 refine kW ?_
 refine AK.ret ⟨_, rfl, ?_⟩
 simp
 rfl
theorem bundleReads_a (s : ByteArray) (hs : s.size ≤ 140737488355328) : AC Tryz.prog 4 [.str s] (.bool true) := by
 have hA := awake22_a
 have hU := unpack_a s
 have hP := parse_a s
 obtain ⟨hg, hz⟩ := parse_good s
 refine kE Tryz.func4 a_law22_BundleReads_ok a_law22_BundleReads_cb fun E hE => ?_
 refine kW ?_
 refine kC (fun hb => ?_) fun hb => ?_
 ·refine kW ?_
  refine kQ [.v (.bool true)] ?_
  refine kW ?_
  refine AK.ret ⟨_, rfl, ?_⟩
  rfl
 have hsame := reads_same (nameB := nameC) (eN := 22) (by decide) (parseL s)
 generalize parseL s = R at *
 obtain ⟨v, e⟩ := R
 generalize unpV nameC 22 (v, e) = U at *
 obtain ⟨fs, f⟩ := U
 dsimp only at hg hz hP hsame hU
 have hlm := len_le_sizeM v.m
 have hve := v.size_eq
 refine kW ?_
 refine kQ [.v (.tup [.lst .any 2 (rowsF fs), .int .i64 f])] ?_
 refine kW ?_
 refine kQ [.v (.tup [(vA (v)), .int .i64 e])] ?_
 refine kW ?_
 refine kQ [] ?_
 refine kC (fun hb => ?_) fun hb => ?_
 have hn : (8 : Int) = want0 (v, e) := by
  obtain ⟨h1, h2⟩ := Bool.and_eq_true_iff.1 hb
  exact (if_pos ⟨of_decide_eq_true h1, by simpa using h2⟩).symm
 rotate_left
 have hk : ¬ ((v, e).2 = 0 ∧ (v, e).1.kind ≠ 5) := fun h => by
  have h1 : (decide (e = 0) && !decide (v.kind = 5)) = true := by rw [decide_eq_true h.1, decide_eq_false h.2]; rfl
  rw [h1] at hb
  cases hb
 refine kW ?_
 refine kQ [] ?_
 refine kC (fun hb => ?_) fun hb => ?_
 have hn : (6 : Int) = want0 (v, e) := by
  obtain ⟨h1, h2⟩ := Bool.and_eq_true_iff.1 hb
  unfold want0
  rw [if_neg hk, if_pos ⟨of_decide_eq_true h1, by have := of_decide_eq_true h2; rw [rowsM_len] at this; show 32 < v.m.length; omega⟩]
 rotate_left
 have hn : e = want0 (v, e) := by
  unfold want0
  rw [if_neg hk, if_neg]
  rintro ⟨h1, h2⟩
  have h3 : (decide (e = 0) && decide (((rowsM v.m).length : Int) > 32)) = true := by
   rw [decide_eq_true h1, decide_eq_true (by rw [rowsM_len]; have h2 : 32 < v.m.length := h2; omega)]; rfl
  rw [h3] at hb
  cases hb
 all_goals
  generalize want0 (v, e) = w0 at *
  refine kW ?_
  refine AK.loopI (fun i : Nat × Int × List Fl × (Nat → Nat) => (frOf [(3, .lst .any 2 (rowsF fs)), (4, .int .i64 f), (7, .int .i64 i.2.1), (8, .lst (.own 56 (i.2.2.2 56)) 2 (rowsF i.2.2.1)), (42, .lst .any 7 (rowsM v.m)), (43, .int .i64 (rowsM v.m).length), (44, .int .i64 i.1)], ⟨boxOf [(5, (vC (v)), false)], i.2.2.2⟩))
   (fun i => i.1 ≤ v.m.length ∧ v.m.foldl (wantS nameC 22) (w0, []) = (v.m.drop i.1).foldl (wantS nameC 22) (i.2.1, i.2.2.1) ∧ i.2.2.1.length ≤ i.1) (fun i => v.m.length - i.1) (0, w0, [], fun _ => 0) ⟨Nat.zero_le _, rfl, Nat.le_refl _⟩
   (Weak.intro ⟨kI, kI, ⟨_, rfl, .of_eq (congrArg _ hn)⟩, ⟨_, rfl, .one (.own _ _ _ _)⟩, kI, kI, kI, trivial⟩ ⟨kJ, trivial⟩ rfl rfl) fun ⟨k, w, out, r⟩ ⟨hk, hF, hol⟩ => ?_
  dsimp only at hk hF hol
  dsimp only
  refine kW ?_
  refine kC (fun hb => ?_) fun hb => ?_
  ·have hlt : k < v.m.length := by simpa [rowsM_len] using hb
   obtain ⟨⟨y, x⟩, hx⟩ : ∃ x, v.m[k]? = some x := ⟨_, List.getElem?_eq_getElem hlt⟩
   have hy : y.size ≤ 256 := (good_key hg (List.mem_of_getElem? hx)).1
   have hd := drop_atT hx
   rw [← hd, List.foldl_cons] at hF
   have hn := refName10_a y (by omega)
   refine kW ?_
   refine kP [.c (.str y :: (vC (x)))] ?_ ?_
   ·((repeat' apply And.intro) <;> first | exact kD | (intro hgd; refine ⟨?_, kG⟩; (repeat' apply And.intro) <;> first | exact kD | skip) | skip)
    ·exact rowsM_at hx
   refine kW ?_
   refine kC (fun hb => ?_) fun hb => ?_
   ·have h1 : w ≠ 0 := by simpa using hb
    rw [show wantS nameC 22 (w, out) (y, x) = (w, out) from if_pos h1] at hF
    refine kW ?_
    exact AK.lp ⟨(k + 1, w, out, r), ⟨by dsimp only; omega, hF, by dsimp only; omega⟩, Weak.intro ⟨kI, kI, kI, kI, kI, kI, kU, trivial⟩ ⟨kJ, trivial⟩ rfl rfl, by dsimp only; omega⟩
   have h1 : w = 0 := by simpa using hb
   subst h1
   rw [show wantS nameC 22 (0, out) (y, x) = (if nameC y = false then (22, out) else if x.kind ≠ 3 then (8, out) else (0, out ++ [(y, x.s)])) from if_neg (fun h => h rfl)] at hF
   refine kW ?_
   refine kQ [.v (.bool (nameC y))] ?_
   refine kC (fun hb => ?_) fun hb => ?_
   ·have h1 : nameC y = false := by simpa using hb
    rw [if_pos h1] at hF
    refine kW ?_
    exact AK.lp ⟨(k + 1, 22, out, r), ⟨by dsimp only; omega, hF, by dsimp only; omega⟩, Weak.intro ⟨kI, kI, kI, kI, kI, kI, kU, trivial⟩ ⟨kJ, trivial⟩ rfl rfl, by dsimp only; omega⟩
   have h1 : ¬ nameC y = false := by simpa using hb
   rw [if_neg h1] at hF
   refine kW ?_
   refine kC (fun hb => ?_) fun hb => ?_
   ·have h2 : x.kind ≠ 3 := by simpa using hb
    rw [if_pos h2] at hF
    refine kW ?_
    exact AK.lp ⟨(k + 1, 8, out, r), ⟨by dsimp only; omega, hF, by dsimp only; omega⟩, Weak.intro ⟨kI, kI, kI, kI, kI, kI, kU, trivial⟩ ⟨kJ, trivial⟩ rfl rfl, by dsimp only; omega⟩
   have h2 : ¬ x.kind ≠ 3 := by simpa using hb
   rw [if_neg h2] at hF
   refine kW ?_
   refine kP [] ?_ ?_
   ·((repeat' apply And.intro) <;> first | exact kD | (intro hgd; refine ⟨?_, kG⟩; (repeat' apply And.intro) <;> first | exact kD | skip) | skip)
    all_goals simp only [rowsF_len, List.length_cons, List.length_nil]
    all_goals omega
   refine kW ?_
   refine AK.lp ⟨(k + 1, 0, out ++ [(y, x.s)], _), ⟨by dsimp only; omega, hF, by dsimp only; rw [List.length_append]; simp; omega⟩, Weak.intro ⟨kI, kI, kI, ⟨_, rfl, .of_eq ?_⟩, kI, kI, kU, trivial⟩ ⟨kJ, trivial⟩ rfl rfl, by dsimp only; omega⟩
   dsimp only
   rw [rowsF_snoc]
   simp [appTag, appRow, upd_same]
   exact ⟨rfl, rfl⟩
  have hlt : k = v.m.length := by have : v.m.length ≤ k := by simpa [rowsM_len] using hb
                                  omega
  subst hlt
  rw [List.drop_length, List.foldl_nil] at hF
  rw [hF] at hsame
  dsimp only at hsame
  refine AK.exit rfl ?_
  by_cases hw : w = 0
  ·rw [if_pos hw] at hsame
   cases hsame
   subst hw
   have hsm := same_a fs fs (by omega) (by omega)
   rw [decide_eq_true rfl] at hsm
   refine kW ?_
   refine kC (fun hb => ?_) fun hb => ?_
   ·cases hb
   refine kW ?_
   refine kQ [.v (.bool true), .v (.bool true)] ?_
   refine kW ?_
   refine AK.ret ⟨_, rfl, ?_⟩
   simp
   rfl
  ·rw [if_neg hw] at hsame
   cases hsame
   have hsm := same_a [] out (by simp) (by omega)
   refine kW ?_
   refine kC (fun hb => ?_) fun hb => ?_
   ·simp at hb
   refine kW ?_
   refine kQ [.v (.bool true), .v (.bool (decide ([] = out)))] ?_
   refine kW ?_
   refine AK.ret ⟨_, rfl, ?_⟩
   simp [rowsF, hw]
   rfl
end Go.Proofs.YtbfiopoefbbknaaGreatDoor
