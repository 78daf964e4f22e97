/-
  The texts that the claim wants, one behind the other: part 29.
-/
import Derived.Test.YtnpkejnaeemgjaaGreatDoorS28
set_option linter.unusedSimpArgs false
set_option linter.unusedVariables false
namespace Go.Proofs.YtnpkejnaeemgjaaGreatDoor
open Go.RowKit
abbrev cellsY (st : YR) (cap : Nat) : List AV := [.sli 2000001 2 st.l.length cap, .int .i64 (st.at_ : Int), .int .i64 st.bad]
def rowY (l : List (Nat × Bs)) (m : Nat) : List AV := (rowsLn l).flatten ++ List.replicate m .top
abbrev boxY (st : YR) (cap m : Nat) : List (Nat × List AV) := [(2000000, cellsY st cap), (2000001, rowY st.l m)]
theorem rowY_cons (x : Nat × Bs) (l : List (Nat × Bs)) (m : Nat) : rowY (x :: l) m = .int .i64 x.1 :: .str (toB x.2) :: rowY l m := rfl
theorem rowY_at : ∀ {l : List (Nat × Bs)} {k : Nat} {x : Nat × Bs} (m : Nat), l[k]? = some x → ((rowY l m).drop (k * 2)).take 2 = [.int .i64 x.1, .str (toB x.2)]
 | [], k, x, m, h => by cases h
 | y :: l, 0, x, m, h => by cases h; rfl
 | y :: l, k + 1, x, m, h => by
  rw [show (k + 1) * 2 = k * 2 + 1 + 1 by omega, rowY_cons, List.drop_succ_cons, List.drop_succ_cons]
  exact rowY_at m h
theorem rowY_set : ∀ {l : List (Nat × Bs)} {k : Nat} (x : Nat × Bs) (m : Nat), k < l.length → (rowY l m).take (k * 2) ++ [.int .i64 x.1, .str (toB x.2)] ++ (rowY l m).drop (k * 2 + 2) = rowY (l.set k x) m
 | [], k, x, m, h => by simp at h
 | y :: l, 0, x, m, h => rfl
 | y :: l, k + 1, x, m, h => by
  have ih := rowY_set (l := l) (k := k) x m (by simpa using h)
  rw [show (k + 1) * 2 = k * 2 + 1 + 1 by omega, rowY_cons, List.take_succ_cons, List.take_succ_cons, show k * 2 + 1 + 1 + 2 = (k * 2 + 2) + 1 + 1 by omega, List.drop_succ_cons, List.drop_succ_cons, List.set_cons_succ, rowY_cons, ← ih]
  rfl
theorem rowY_mem {l : List (Nat × Bs)} {m : Nat} {x : AV} (h : x ∈ rowY l m) : (∃ n, x = .int .i64 n) ∨ (∃ s, x = .str s) ∨ x = .top := by
 rcases List.mem_append.1 h with h | h
 ·obtain ⟨c, hc, hx⟩ := List.mem_flatten.1 h
  obtain ⟨p, _, rfl⟩ := List.mem_map.1 hc
  rcases List.mem_cons.1 hx with rfl | hx
  ·exact .inl ⟨_, rfl⟩
  ·rcases List.mem_cons.1 hx with rfl | hx
   ·exact .inr (.inl ⟨_, rfl⟩)
   ·cases hx
 ·exact .inr (.inr (List.eq_of_mem_replicate h))
theorem told_rowY (l : List (Nat × Bs)) (m : Nat) : (rowY l m).map AV.told = rowY l m := by
 refine (List.map_congr_left fun x hx => ?_).trans (List.map_id _)
 rcases rowY_mem hx with ⟨n, rfl⟩ | ⟨s, rfl⟩ | rfl <;> rfl
theorem okIn_Y (st : YR) (cap m : Nat) (a : AV) (ha : a.okIn = true) : okInS (boxY st cap m) [.np 2000000 0, a] = true := by
 unfold okInS
 simp only [List.all_cons, List.all_nil, ha]
 have h : (rowY st.l m).all AV.okIn = true := List.all_eq_true.2 fun x hx => by
  rcases rowY_mem hx with ⟨n, rfl⟩ | ⟨s, rfl⟩ | rfl <;> rfl
 rw [h]
 rfl
theorem okS_Y (st : YR) (cap m : Nat) (v : V) (b : Nat → Option (List AV × Bool)) : (okS [2000000, 2000001] (boxY st cap m) ((vA (v))) && freeIds b (newIds [2000000, 2000001] (boxY st cap m))) = true := by
 have h : (rowY st.l m).all (AV.inS (domS (boxY st cap m))) = true := List.all_eq_true.2 fun x hx => by
  rcases rowY_mem hx with ⟨n, rfl⟩ | ⟨s, rfl⟩ | rfl <;> rfl
 unfold okS
 simp only [List.all_cons, List.all_nil, h]
 rfl
theorem noFrs_Y (l : List (Nat × Bs)) (m : Nat) : (rowY l m).all AV.noFrs = true := List.all_eq_true.2 fun x hx => by
 rcases rowY_mem hx with ⟨n, rfl⟩ | ⟨s, rfl⟩ | rfl <;> rfl
def RdA (f : FuncId) (a : AV) (st : YR) (r : V × YR) : Prop := ∀ cap m, MS Tryz.prog f (boxY st cap m) [.np 2000000 0, a] (boxY r.2 cap m) ((vA (r.1)))
theorem RdA.two {f : FuncId} {a : AV} {st : YR} {R : V × YR} (h : RdA f a st R) (cap m : Nat) : MS Tryz.prog f [(2000000, cellsY st cap), (2000001, (rowY st.l m).map AV.told)] [.np 2000000 0, a] (boxY R.2 cap m) ((vA (R.1))) ∧ ∀ b, (okS [2000000, 2000001] (boxY R.2 cap m) ((vA (R.1))) && freeIds b (newIds [2000000, 2000001] (boxY R.2 cap m))) = true := by
 rw [told_rowY]
 exact ⟨h cap m, fun b => okS_Y _ _ _ _ _⟩
theorem fail_a (st : YR) (e : Int) : RdA 82 (.int .i64 e) st (V.null, st.fail e) := fun cap m => by
 refine MS.enter Tryz.func82 a_yaml_reader_fail_ok a_yaml_reader_fail_cb (by rfl) (okIn_Y st cap m _ rfl) fun E hE => ?_
 show AK _ _ _ [.c b_yaml_reader_fail] _ _
 rw [b_yaml_reader_fail]
 refine kW ?_
 refine kC (fun hb => ?_) fun hb => ?_
 ·have hb0 : st.bad = 0 := by simpa using hb
  have e1 : st.fail e = ⟨st.l, st.l.length, e⟩ := by unfold YR.fail; rw [if_pos hb0]
  rw [e1]
  refine kW ?_
  refine AK.ret ⟨⟨_, rfl, rfl⟩, ⟨_, rfl, rfl⟩, ⟨_, rfl, told_rowY _ _⟩, trivial⟩
 ·have hb0 : ¬ st.bad = 0 := by simpa using hb
  have e1 : st.fail e = ⟨st.l, st.l.length, st.bad⟩ := by unfold YR.fail; rw [if_neg hb0]
  rw [e1]
  refine kW ?_
  refine AK.ret ⟨⟨_, rfl, rfl⟩, ⟨_, rfl, rfl⟩, ⟨_, rfl, told_rowY _ _⟩, trivial⟩
theorem inline_a (st : YR) (s : Bs) (hs : s.length ≤ 1000000) : RdA 120 (.str (toB s)) st (inlS s st) := fun cap m => by
 have hone := one_ok 1000000 (Nat.le_refl _) (2 * s.length + 1) [] s hs (Nat.le_refl _)
 generalize hR : inlS s st = R
 unfold inlS inlineL at hR
 generalize flowF (2 * s.length + 1) (.one []) s = q at *
 obtain ⟨v, rest, e⟩ := q
 dsimp only at hR
 refine MS.enter Tryz.func120 a_yaml_reader_inline_ok a_yaml_reader_inline_cb (by rfl) (okIn_Y _ cap m _ rfl) fun E hE => ?_
 show AK _ _ _ [.c b_yaml_reader_inline] _ _
 rw [b_yaml_reader_inline]
 refine kW ?_
 refine kQ [.v (fA (v, rest, e))] ?_
 have hne := ne_toB rest
 have key : ∀ e', (V.null, st.fail e') = R → _ := fun e' h => (h ▸ fail_a st e' : RdA 82 (.int .i64 e') st R).two cap m
 refine kW ?_
 refine kQ [] ?_
 refine kC (fun hb => ?_) fun hb => ?_
 ·rw [hne] at hb
  have h0 : e = 0 ∧ rest ≠ [] := by simpa [List.isEmpty_iff] using hb
  have hR2 : (V.null, st.fail 10) = R := by simpa [h0.1, h0.2] using hR
  obtain ⟨k1, k2⟩ := key 10 hR2
  refine kW ?_
  refine kC (fun hb => ?_) fun hb => ?_
  ·refine kW ?_
   refine kP [.s [2000000, 2000001] (boxY (R.2) cap m) ((vA (R.1)))] ?_ ?_
   ·((repeat' apply And.intro) <;> first | exact kD | (intro hgd; refine ⟨?_, kG⟩; (repeat' apply And.intro) <;> first | exact kD | skip) | skip)
    all_goals first | exact k1 | exact k2 _
   refine kW ?_
   refine AK.ret ⟨⟨_, rfl, ?_⟩, ⟨_, rfl, rfl⟩, ⟨_, rfl, told_rowY _ _⟩, trivial⟩
   rfl
  ·simp at hb
 ·rw [hne] at hb
  refine kW ?_
  refine kC (fun hb => ?_) fun hb => ?_
  ·have h0 : e ≠ 0 := by simpa using hb
   have hR2 : (V.null, st.fail e) = R := by simpa [h0] using hR
   obtain ⟨k1, k2⟩ := key e hR2
   refine kW ?_
   refine kP [.s [2000000, 2000001] (boxY (R.2) cap m) ((vA (R.1)))] ?_ ?_
   ·((repeat' apply And.intro) <;> first | exact kD | (intro hgd; refine ⟨?_, kG⟩; (repeat' apply And.intro) <;> first | exact kD | skip) | skip)
    all_goals first | exact k1 | exact k2 _
   refine kW ?_
   refine AK.ret ⟨⟨_, rfl, ?_⟩, ⟨_, rfl, rfl⟩, ⟨_, rfl, told_rowY _ _⟩, trivial⟩
   rfl
  ·rename_i hb0
   have h0 : e = 0 := by simpa using hb
   subst h0
   have h1 : rest = [] := by
    have := hb0
    simpa [List.isEmpty_iff] using this
   have h2 : (v, st) = R := by simpa [h1] using hR
   subst h2
   refine kW ?_
   refine AK.ret ⟨⟨_, rfl, ?_⟩, ⟨_, rfl, rfl⟩, ⟨_, rfl, told_rowY _ _⟩, trivial⟩
   rfl
theorem below_a (st : YR) (i n : Nat) (hB : ∀ j t, st.l[st.at_]? = some (j, t) → i < j → RdA 81 (.int .i64 j) st (readF n .block j st)) :
  RdA 167 (.int .i64 i) st (readF (n + 1) .below i st) := fun cap m => by
 generalize hR : readF (n + 1) .below i st = R
 unfold readF at hR
 have hN := treeNull_a
 refine MS.enter Tryz.func167 a_yaml_reader_below_ok a_yaml_reader_below_cb (by rfl) (okIn_Y _ cap m _ rfl) fun E hE => ?_
 show AK _ _ _ [.c b_yaml_reader_below] _ _
 rw [b_yaml_reader_below]
 refine kW ?_
 cases hx : st.l[st.at_]? with
 | none =>
  rw [hx] at hR
  dsimp only at hR
  subst hR
  have hz : decide ((st.at_ : Int) < (st.l.length : Int)) = false := by have := List.getElem?_eq_none_iff.1 hx; simpa using this
  refine kP [.c [.int .i64 0, .str ⟨#[]⟩]] ?_ ?_
  ·((repeat' apply And.intro) <;> first | exact kD | (intro hgd; refine ⟨?_, kG⟩; (repeat' apply And.intro) <;> first | exact kD | skip) | skip)
   all_goals (exfalso; rw [hz] at hgd; simp [gd] at hgd)
  rw [hz]
  refine kC (fun hb => ?_) fun hb => ?_
  ·cases hb
  ·refine kW ?_
   refine kQ [.v ((vA (V.null)))] ?_
   refine AK.ret ⟨⟨_, rfl, ?_⟩, ⟨_, rfl, rfl⟩, ⟨_, rfl, told_rowY _ _⟩, trivial⟩
   rfl
 | some x =>
  obtain ⟨j, t⟩ := x
  rw [hx] at hR
  dsimp only at hR
  have hl := (List.getElem?_eq_some_iff.1 hx).1
  have hat := rowY_at m hx
  have hB := fun h => hB j t hx h
  refine kP [.c [.int .i64 j, .str (toB t)]] ?_ ?_
  ·((repeat' apply And.intro) <;> first | exact kD | (intro hgd; refine ⟨?_, kG⟩; (repeat' apply And.intro) <;> first | exact kD | skip) | skip)
   all_goals first | exact hat | skip
  have hz : decide ((st.at_ : Int) < (st.l.length : Int)) = true := by simpa using hl
  rw [hz]
  refine kC (fun hb => ?_) fun hb => ?_
  ·have hij : i < j := by simpa using hb
   rw [if_pos hij] at hR
   have hB := hB hij
   rw [hR] at hB
   obtain ⟨k1, k2⟩ := hB.two cap m
   refine kW ?_
   refine kP [.c [.int .i64 j, .str (toB t)], .s [2000000, 2000001] (boxY (R.2) cap m) ((vA (R.1)))] ?_ ?_
   ·((repeat' apply And.intro) <;> first | exact kD | (intro hgd; refine ⟨?_, kG⟩; (repeat' apply And.intro) <;> first | exact kD | skip) | skip)
    all_goals first | exact hat | exact k1 | exact k2 _ | skip
   refine kW ?_
   refine AK.ret ⟨⟨_, rfl, ?_⟩, ⟨_, rfl, rfl⟩, ⟨_, rfl, told_rowY _ _⟩, trivial⟩
   rfl
  ·have hij : ¬ i < j := by simpa using hb
   rw [if_neg hij] at hR
   subst hR
   refine kW ?_
   refine kQ [.v ((vA (V.null)))] ?_
   refine AK.ret ⟨⟨_, rfl, ?_⟩, ⟨_, rfl, rfl⟩, ⟨_, rfl, told_rowY _ _⟩, trivial⟩
   rfl
end Go.Proofs.YtnpkejnaeemgjaaGreatDoor
/-
 yaml's reader: block, walked.
-/
namespace Go.Proofs.YtnpkejnaeemgjaaGreatDoor
open Go.RowKit
theorem splitA_eq (o : Option (Bs × Bs)) : splitA o = .tup [.str (toB (o.getD ([], [])).1), .str (toB (o.getD ([], [])).2), .bool o.isSome] := by cases o <;> rfl
theorem block_a (st : YR) (i n : Nat) (hI : YInv st) {j : Nat} {t : Bs} (hx : st.l[st.at_]? = some (j, t)) (hL : RdA 118 (.int .i64 i) st (readF n (.list []) i st))
  (hP : RdA 119 (.int .i64 i) st (readF n (.pairs []) i st)) : RdA 81 (.int .i64 i) st (readF (n + 1) .block i st) := fun cap m => by
 have hln := hI.ln _ (List.mem_of_getElem? hx)
 have hlz := hI.len
 have hl := (List.getElem?_eq_some_iff.1 hx).1
 simp only at hln
 have hsp := split_a t (by omega)
 rw [splitA_eq] at hsp
 have hit := item_a t
 have hat := rowY_at m hx
 have hin := inline_a ⟨st.l, st.at_ + 1, st.bad⟩ t (by omega)
 have hw1 : IntKind.i64.wrap ((st.at_ : Int) + 1) = ((st.at_ + 1 : Nat) : Int) := by rw [wrap_in (by omega) (by omega)]; omega
 generalize hR : readF (n + 1) .block i st = R
 unfold readF at hR
 rw [hx] at hR
 dsimp only at hR
 refine MS.enter Tryz.func81 a_yaml_reader_block_ok a_yaml_reader_block_cb (by rfl) (okIn_Y _ cap m _ rfl) fun E hE => ?_
 show AK _ _ _ [.c b_yaml_reader_block] _ _
 rw [b_yaml_reader_block]
 refine kW ?_
 refine kP [.c [.int .i64 j, .str (toB t)]] ?_ ?_
 ·((repeat' apply And.intro) <;> first | exact kD | (intro hgd; refine ⟨?_, kG⟩; (repeat' apply And.intro) <;> first | exact kD | skip) | skip)
  all_goals first | exact hat | skip
 refine kW ?_
 refine kQ [.v (.tup [.str (toB ((splitL t).getD ([], [])).1), .str (toB ((splitL t).getD ([], [])).2), .bool (splitL t).isSome])] ?_
 refine kW ?_
 refine kQ [.v (.bool (isItem t))] ?_
 refine kC (fun hb => ?_) fun hb => ?_
 ·simp only [hb, if_true] at hR
  clear hP hin
  generalize readF n (.list []) i st = q at *
  obtain ⟨v, st1⟩ := q
  dsimp only at hR
  obtain ⟨k1, k2⟩ := hL.two cap m
  refine kW ?_
  refine kP [.s [2000000, 2000001] (boxY (st1) cap m) ((vA (v)))] ?_ ?_
  ·((repeat' apply And.intro) <;> first | exact kD | (intro hgd; refine ⟨?_, kG⟩; (repeat' apply And.intro) <;> first | exact kD | skip) | skip)
   all_goals first | exact k1 | exact k2 _ | skip
  clear hb hx hln hl hlz hsp hit hat hw1 k1 k2 hL hI
  cases hx1 : (st1).l[(st1).at_]? with
  | none =>
   have hdp : (st1).deep i = false := by unfold YR.deep; rw [hx1]
   rw [hdp, if_neg (by simp)] at hR
   have hz : decide ((((st1).at_ : Nat) : Int) < ((st1).l.length : Int)) = false := by have := List.getElem?_eq_none_iff.1 hx1; simpa using this
   refine kW ?_
   refine kP [.c [.int .i64 0, .str ⟨#[]⟩]] ?_ ?_
   ·((repeat' apply And.intro) <;> first | exact kD | (intro hgd; refine ⟨?_, kG⟩; (repeat' apply And.intro) <;> first | exact kD | skip) | skip)
    all_goals (exfalso; rw [hz] at hgd; simp [gd] at hgd)
   rw [hz]
   refine kC (fun hb => ?_) fun hb => ?_
   ·cases hb
   ·subst hR
    refine kW ?_
    refine AK.ret ⟨⟨_, rfl, ?_⟩, ⟨_, rfl, rfl⟩, ⟨_, rfl, told_rowY _ _⟩, trivial⟩
    rfl
  | some x =>
   obtain ⟨j1, t1⟩ := x
   have hdp : (st1).deep i = decide (i < j1) := by unfold YR.deep; rw [hx1]
   rw [hdp] at hR
   have hl1 := (List.getElem?_eq_some_iff.1 hx1).1
   have hat1 := rowY_at m hx1
   have hz : decide ((((st1).at_ : Nat) : Int) < ((st1).l.length : Int)) = true := by simpa using hl1
   refine kW ?_
   refine kP [.c [.int .i64 j1, .str (toB t1)]] ?_ ?_
   ·((repeat' apply And.intro) <;> first | exact kD | (intro hgd; refine ⟨?_, kG⟩; (repeat' apply And.intro) <;> first | exact kD | skip) | skip)
    all_goals first | exact hat1 | skip
   rw [hz]
   refine kC (fun hb => ?_) fun hb => ?_
   ·have hij : i < j1 := by simpa using hb
    rw [if_pos (by simpa using hij)] at hR
    obtain ⟨f1, f2⟩ := (hR ▸ fail_a (st1) 12 : RdA 82 (.int .i64 12) (st1) R).two cap m
    refine kW ?_
    refine kP [.s [2000000, 2000001] (boxY (R.2) cap m) ((vA (R.1)))] ?_ ?_
    ·((repeat' apply And.intro) <;> first | exact kD | (intro hgd; refine ⟨?_, kG⟩; (repeat' apply And.intro) <;> first | exact kD | skip) | skip)
     all_goals first | exact f1 | exact f2 _ | skip
    refine kW ?_
    refine AK.ret ⟨⟨_, rfl, ?_⟩, ⟨_, rfl, rfl⟩, ⟨_, rfl, told_rowY _ _⟩, trivial⟩
    rfl
   ·have hij : ¬ i < j1 := by simpa using hb
    rw [if_neg (by simpa using hij)] at hR
    subst hR
    refine kW ?_
    refine AK.ret ⟨⟨_, rfl, ?_⟩, ⟨_, rfl, rfl⟩, ⟨_, rfl, told_rowY _ _⟩, trivial⟩
    rfl
 ·simp only [hb, Bool.false_eq_true, if_false] at hR
  refine kW ?_
  refine kC (fun hb => ?_) fun hb => ?_
  ·simp only [hb, if_true] at hR
   clear hL hin
   generalize readF n (.pairs []) i st = q at *
   obtain ⟨v, st1⟩ := q
   dsimp only at hR
   obtain ⟨k1, k2⟩ := hP.two cap m
   refine kW ?_
   refine kP [.s [2000000, 2000001] (boxY (st1) cap m) ((vA (v)))] ?_ ?_
   ·((repeat' apply And.intro) <;> first | exact kD | (intro hgd; refine ⟨?_, kG⟩; (repeat' apply And.intro) <;> first | exact kD | skip) | skip)
    all_goals first | exact k1 | exact k2 _ | skip
   clear hb hx hln hl hlz hsp hit hat hw1 k1 k2 hP hI
   cases hx1 : (st1).l[(st1).at_]? with
   | none =>
    have hdp : (st1).deep i = false := by unfold YR.deep; rw [hx1]
    rw [hdp, if_neg (by simp)] at hR
    have hz : decide ((((st1).at_ : Nat) : Int) < ((st1).l.length : Int)) = false := by have := List.getElem?_eq_none_iff.1 hx1; simpa using this
    refine kW ?_
    refine kP [.c [.int .i64 0, .str ⟨#[]⟩]] ?_ ?_
    ·((repeat' apply And.intro) <;> first | exact kD | (intro hgd; refine ⟨?_, kG⟩; (repeat' apply And.intro) <;> first | exact kD | skip) | skip)
     all_goals (exfalso; rw [hz] at hgd; simp [gd] at hgd)
    rw [hz]
    refine kC (fun hb => ?_) fun hb => ?_
    ·cases hb
    ·subst hR
     refine kW ?_
     refine AK.ret ⟨⟨_, rfl, ?_⟩, ⟨_, rfl, rfl⟩, ⟨_, rfl, told_rowY _ _⟩, trivial⟩
     rfl
   | some x =>
    obtain ⟨j1, t1⟩ := x
    have hdp : (st1).deep i = decide (i < j1) := by unfold YR.deep; rw [hx1]
    rw [hdp] at hR
    have hl1 := (List.getElem?_eq_some_iff.1 hx1).1
    have hat1 := rowY_at m hx1
    have hz : decide ((((st1).at_ : Nat) : Int) < ((st1).l.length : Int)) = true := by simpa using hl1
    refine kW ?_
    refine kP [.c [.int .i64 j1, .str (toB t1)]] ?_ ?_
    ·((repeat' apply And.intro) <;> first | exact kD | (intro hgd; refine ⟨?_, kG⟩; (repeat' apply And.intro) <;> first | exact kD | skip) | skip)
     all_goals first | exact hat1 | skip
    rw [hz]
    refine kC (fun hb => ?_) fun hb => ?_
    ·have hij : i < j1 := by simpa using hb
     rw [if_pos (by simpa using hij)] at hR
     obtain ⟨f1, f2⟩ := (hR ▸ fail_a (st1) 12 : RdA 82 (.int .i64 12) (st1) R).two cap m
     refine kW ?_
     refine kP [.s [2000000, 2000001] (boxY (R.2) cap m) ((vA (R.1)))] ?_ ?_
     ·((repeat' apply And.intro) <;> first | exact kD | (intro hgd; refine ⟨?_, kG⟩; (repeat' apply And.intro) <;> first | exact kD | skip) | skip)
      all_goals first | exact f1 | exact f2 _ | skip
     refine kW ?_
     refine AK.ret ⟨⟨_, rfl, ?_⟩, ⟨_, rfl, rfl⟩, ⟨_, rfl, told_rowY _ _⟩, trivial⟩
     rfl
    ·have hij : ¬ i < j1 := by simpa using hb
     rw [if_neg (by simpa using hij)] at hR
     subst hR
     refine kW ?_
     refine AK.ret ⟨⟨_, rfl, ?_⟩, ⟨_, rfl, rfl⟩, ⟨_, rfl, told_rowY _ _⟩, trivial⟩
     rfl
  ·simp only [hb, Bool.false_eq_true, if_false] at hR
   clear hL hP
   generalize inlS t ⟨st.l, st.at_ + 1, st.bad⟩ = q at *
   obtain ⟨v, st1⟩ := q
   dsimp only at hR
   obtain ⟨k1, k2⟩ := hin.two cap m
   refine kW ?_
   refine kP [.s [2000000, 2000001] (boxY (st1) cap m) ((vA (v)))] ?_ ?_
   ·((repeat' apply And.intro) <;> first | exact kD | (intro hgd; refine ⟨?_, kG⟩; (repeat' apply And.intro) <;> first | exact kD | skip) | skip)
    all_goals first | (rw [hw1]; exact k1) | exact k2 _ | skip
   clear hb hx hln hl hlz hsp hit hat hw1 k1 k2 hin hI
   cases hx1 : (st1).l[(st1).at_]? with
   | none =>
    have hdp : (st1).deep i = false := by unfold YR.deep; rw [hx1]
    rw [hdp, if_neg (by simp)] at hR
    have hz : decide ((((st1).at_ : Nat) : Int) < ((st1).l.length : Int)) = false := by have := List.getElem?_eq_none_iff.1 hx1; simpa using this
    refine kW ?_
    refine kP [.c [.int .i64 0, .str ⟨#[]⟩]] ?_ ?_
    ·((repeat' apply And.intro) <;> first | exact kD | (intro hgd; refine ⟨?_, kG⟩; (repeat' apply And.intro) <;> first | exact kD | skip) | skip)
     all_goals (exfalso; rw [hz] at hgd; simp [gd] at hgd)
    rw [hz]
    refine kC (fun hb => ?_) fun hb => ?_
    ·cases hb
    ·subst hR
     refine kW ?_
     refine AK.ret ⟨⟨_, rfl, ?_⟩, ⟨_, rfl, rfl⟩, ⟨_, rfl, told_rowY _ _⟩, trivial⟩
     rfl
   | some x =>
    obtain ⟨j1, t1⟩ := x
    have hdp : (st1).deep i = decide (i < j1) := by unfold YR.deep; rw [hx1]
    rw [hdp] at hR
    have hl1 := (List.getElem?_eq_some_iff.1 hx1).1
    have hat1 := rowY_at m hx1
    have hz : decide ((((st1).at_ : Nat) : Int) < ((st1).l.length : Int)) = true := by simpa using hl1
    refine kW ?_
    refine kP [.c [.int .i64 j1, .str (toB t1)]] ?_ ?_
    ·((repeat' apply And.intro) <;> first | exact kD | (intro hgd; refine ⟨?_, kG⟩; (repeat' apply And.intro) <;> first | exact kD | skip) | skip)
     all_goals first | exact hat1 | skip
    rw [hz]
    refine kC (fun hb => ?_) fun hb => ?_
    ·have hij : i < j1 := by simpa using hb
     rw [if_pos (by simpa using hij)] at hR
     obtain ⟨f1, f2⟩ := (hR ▸ fail_a (st1) 12 : RdA 82 (.int .i64 12) (st1) R).two cap m
     refine kW ?_
     refine kP [.s [2000000, 2000001] (boxY (R.2) cap m) ((vA (R.1)))] ?_ ?_
     ·((repeat' apply And.intro) <;> first | exact kD | (intro hgd; refine ⟨?_, kG⟩; (repeat' apply And.intro) <;> first | exact kD | skip) | skip)
      all_goals first | exact f1 | exact f2 _ | skip
     refine kW ?_
     refine AK.ret ⟨⟨_, rfl, ?_⟩, ⟨_, rfl, rfl⟩, ⟨_, rfl, told_rowY _ _⟩, trivial⟩
     rfl
    ·have hij : ¬ i < j1 := by simpa using hb
     rw [if_neg (by simpa using hij)] at hR
     subst hR
     refine kW ?_
     refine AK.ret ⟨⟨_, rfl, ?_⟩, ⟨_, rfl, rfl⟩, ⟨_, rfl, told_rowY _ _⟩, trivial⟩
     rfl
end Go.Proofs.YtnpkejnaeemgjaaGreatDoor
/-
 yaml's reader: list, walked.
-/
namespace Go.Proofs.YtnpkejnaeemgjaaGreatDoor
open Go.RowKit
def BlkOk (N : Nat) : Prop := ∀ (st : YR) (i n j : Nat) (t : Bs), YInv st → st.l[st.at_]? = some (j, t) → i ≤ 1000000 → st.w ≤ N → 3 * st.w + 2 ≤ n → RdA 81 (.int .i64 i) st (readF n .block i st)
theorem BlkOk.below {N : Nat} (hB : BlkOk N) {st : YR} {i n : Nat} (hI : YInv st) (hw : st.w ≤ N) (hn : 3 * st.w + 3 ≤ n) : RdA 167 (.int .i64 i) st (readF n .below i st) := by
 obtain ⟨k, rfl⟩ : ∃ k, n = k + 1 := ⟨n - 1, by omega⟩
 refine below_a st i k fun j t hx _ => hB st j k j t hI hx ?_ hw (by omega)
 have := hI.ln _ (List.mem_of_getElem? hx)
 simp only at this
 omega
set_option maxHeartbeats 1000000 in
theorem list_a {N : Nat} (hB : BlkOk N) (hN : N ≤ 100000000) (st : YR) (i n : Nat) (hI : YInv st) (hi : i ≤ 1000000) (hw : st.w ≤ N + 1) (hn : 3 * st.w + 1 ≤ n) : RdA 118 (.int .i64 i) st (readF n (.list []) i st) := fun cap m => by
 have hl := treeList_a
 generalize hR : readF n (.list []) i st = R
 refine MS.enter Tryz.func118 a_yaml_reader_list_ok a_yaml_reader_list_cb (by rfl) (okIn_Y _ cap m _ rfl) fun E hE => ?_
 show AK _ _ _ [.c b_yaml_reader_list] _ _
 rw [b_yaml_reader_list]
 refine kW ?_
 refine kQ [.v (.agg [.int .i64 4, .bool false, .int .i64 0, .str ⟨#[]⟩, .lst .nil 6 [], .lst .nil 7 []])] ?_
 refine kW ?_
 refine AK.loopI (fun x : (Nat → Nat) × List V × YR × Nat => (frOf [(0, .np 2000000 0), (1, .int .i64 i), (4, .ptr 4 0), (5, .ptr 5 0)], ⟨boxOf [(4, [.int .i64 0, .bool false, .int .i64 0, .str ⟨#[]⟩, .lst .nil 6 [], .lst .nil 7 []], false), (5, [.int .i64 4, .bool false, .int .i64 0, .str ⟨#[]⟩, .lst (.own 76 (x.1 76)) 6 (rowsV x.2.1), .lst .nil 7 []], false), (2000000, cellsY x.2.2.1 cap, false), (2000001, rowY x.2.2.1.l m, false)], x.1⟩))
  (fun x => readF x.2.2.2 (.list x.2.1) i x.2.2.1 = R ∧ YInv x.2.2.1 ∧ x.2.2.1.w + sizeL x.2.1 ≤ st.w ∧ 3 * x.2.2.1.w + 1 ≤ x.2.2.2 ∧ RdL x.2.1) (fun x => x.2.2.1.w) (fun _ => 0, [], st, n) ⟨hR, hI, by dsimp only [sizeL]; omega, hn, fun x hx => by cases hx⟩
  (Weak.introN ⟨kI, kI, kI, kI, trivial⟩ ⟨kJ, ⟨_, rfl, .refl _, .refl _, .refl _, .refl _, .own _ _ _ _, .refl _, trivial⟩, kJ, kJ, trivial⟩ rfl rfl ⟨rfl, noFrs_Y _ _, trivial⟩) fun ⟨r, out, st1, k⟩ ⟨hR, hI1, hz, hk, hrd⟩ => ?_
 dsimp only at hR hI1 hz hk hrd
 dsimp only
 clear hI hn
 obtain ⟨k, rfl⟩ : ∃ q, k = q + 1 := ⟨k - 1, by omega⟩
 unfold readF at hR
 refine kW ?_
 cases hx : st1.l[st1.at_]? with
 | none =>
  rw [hx] at hR
  dsimp only at hR
  have hzd : decide ((st1.at_ : Int) < (st1.l.length : Int)) = false := by have := List.getElem?_eq_none_iff.1 hx; simpa using this
  refine kP [.c [.int .i64 0, .str ⟨#[]⟩], .c [.int .i64 0, .str ⟨#[]⟩], .v (.bool false)] ?_ ?_
  ·((repeat' apply And.intro) <;> first | exact kD | (intro hgd; refine ⟨?_, kG⟩; (repeat' apply And.intro) <;> first | exact kD | skip) | skip)
   all_goals (exfalso; rw [hzd] at hgd; simp [gd] at hgd)
  rw [hzd]
  refine kC (fun hb => ?_) fun hb => ?_
  ·cases hb
  ·subst hR
   refine AK.exit rfl ?_
   refine kW ?_
   refine AK.ret ⟨⟨_, rfl, ?_⟩, ⟨_, rfl, rfl⟩, ⟨_, rfl, told_rowY _ _⟩, trivial⟩
   rfl
 | some x =>
  obtain ⟨j, t⟩ := x
  rw [hx] at hR
  dsimp only at hR
  have hl1 := (List.getElem?_eq_some_iff.1 hx).1
  have hat := rowY_at m hx
  have hit := item_a t
  have hzd : decide ((st1.at_ : Int) < (st1.l.length : Int)) = true := by simpa using hl1
  refine kP [.c [.int .i64 j, .str (toB t)], .c [.int .i64 j, .str (toB t)], .v (.bool (isItem t))] ?_ ?_
  ·((repeat' apply And.intro) <;> first | exact kD | (intro hgd; refine ⟨?_, kG⟩; (repeat' apply And.intro) <;> first | exact kD | skip) | skip)
   all_goals first | exact hat | skip
  rw [hzd]
  refine kC (fun hb => ?_) fun hb => ?_
  ·have hc : j = i ∧ isItem t = true := by
    have h2 : (j : Int) = i ∧ isItem t = true := by simpa using hb
    exact ⟨by omega, h2.2⟩
   rw [if_pos hc] at hR
   obtain ⟨rfl, hitm⟩ := hc
   have hln := hI1.ln _ (List.mem_of_getElem? hx)
   have hlz := hI1.len
   have hil := item_len hitm
   have hwx := YR.w_at hx
   have htl := tl_a (t.drop 1)
   have hne := ne_toB (tl (t.drop 1))
   have hll := len_le_sizeL out
   have hw1 : IntKind.i64.wrap ((st1.at_ : Int) + 1) = ((st1.at_ + 1 : Nat) : Int) := by rw [wrap_in (by omega) (by omega)]; omega
   simp only at hln hwx
   clear hb hzd hit
   refine kW ?_
   refine kP [.c [.int .i64 j, .str (toB t)], .v (.str (toB (tl (t.drop 1))))] ?_ ?_
   ·((repeat' apply And.intro) <;> first | exact kD | (intro hgd; refine ⟨?_, kG⟩; (repeat' apply And.intro) <;> first | exact kD | skip) | skip)
    all_goals first | exact hat | (rw [toB_size]; omega) | (show AC _ _ [.str ((toB t).extract 1 (toB t).size), _] _; rw [toB_from]; exact htl) | skip
   refine kW ?_
   rw [hne]
   refine kC (fun hb => ?_) fun hb => ?_
   ·have hnil : tl (t.drop 1) = [] := by simpa [List.isEmpty_iff] using hb
    rw [if_pos hnil] at hR
    have hbl := hB.below (i := j) (n := k) (hI1.next hx) (by omega) (by omega)
    have hro := read_ok k .below j ⟨st1.l, st1.at_ + 1, st1.bad⟩ (hI1.next hx) (by simp only [YMsz]; omega) trivial
    generalize readF k .below j ⟨st1.l, st1.at_ + 1, st1.bad⟩ = q at *
    obtain ⟨v, st2⟩ := q
    dsimp only at hR
    obtain ⟨k1, k2⟩ := hbl.two cap m
    have hsz1 : sizeL (out ++ [v]) = sizeL out + v.size := by rw [sizeL_append]; simp [sizeL]
    have hfit := hro.fit
    have hwle := hro.w
    simp only [YMsz] at hfit hwle
    refine kW ?_
    refine AK.rega fw0 [.s [2000000, 2000001] (boxY (st2) cap m) ((vA (v)))] (frOf [(0, .np 2000000 0), (1, .int .i64 j), (4, .ptr 4 0), (5, .ptr 5 0)]) ⟨boxOf [(4, [.int .i64 0, .bool false, .int .i64 0, .str ⟨#[]⟩, .lst .nil 6 [], .lst .nil 7 []], false), (5, [.int .i64 4, .bool false, .int .i64 0, .str ⟨#[]⟩, .lst (.own 76 (r 76 + 1)) 6 (rowsV out ++ [(vC (v))]), .lst .nil 7 []], false), (2000000, cellsY st2 cap, false), (2000001, rowY st2.l m, false)], upd r 76 (r 76 + 1)⟩ ?_ ?_
    ·(repeat' (first | exact trivial | apply And.intro))
     all_goals first | exact rfl | (rw [hw1]; exact k1) | exact k2 _ | (simp only [rowsV_len, List.length_nil, List.length_cons]; omega) | (show _ ∨ _; exact .inl rfl) | exact Weak.introN ⟨kI, kI, kI, kI, trivial⟩ ⟨kJ, kJ, kJ, kJ, trivial⟩ rfl rfl ⟨rfl, noFrs_Y _ _, trivial⟩ | skip
    ·refine AK.exit rfl ?_
     refine kW ?_
     refine AK.lp ⟨(upd r 76 (r 76 + 1), out ++ [v], st2, k), ⟨hR, hro.inv, by dsimp only; rw [hsz1]; omega, by dsimp only; omega, hrd.snoc hro.ord hro.sb⟩, (Weak.introN ⟨kI, kI, kI, kI, trivial⟩ ⟨kJ, ⟨_, rfl, .refl _, .refl _, .refl _, .refl _, ?_, .refl _, trivial⟩, kJ, kJ, trivial⟩ rfl rfl ⟨rfl, noFrs_Y _ _, trivial⟩), by dsimp only; omega⟩
     dsimp only
     rw [rowsV_snoc, cellsV_eq]
     exact .refl _
   ·have hnil : tl (t.drop 1) ≠ [] := by simpa [List.isEmpty_iff] using hb
    rw [if_neg hnil] at hR
    generalize tl (t.drop 1) = rest at *
    obtain ⟨d, hd⟩ : ∃ d, d = j + t.length - rest.length := ⟨_, rfl⟩
    rw [← hd] at hR
    have hw2 : IntKind.i64.wrap (IntKind.i64.wrap ((j : Int) + ((toB t).size : Int)) - ((toB rest).size : Int)) = (d : Int) := by
     rw [toB_size, toB_size, show IntKind.i64.wrap ((j : Int) + (t.length : Int)) = (j : Int) + (t.length : Int) from wrap_in (by omega) (by omega), wrap_in (by omega) (by omega)]
     omega
    have hset := YR.w_set (st := st1) (y := (d, rest)) hx
    simp only at hset
    have hI2 : YInv ⟨st1.l.set st1.at_ (d, rest), st1.at_, st1.bad⟩ := hI1.set (by simp only; omega)
    have hbl := hB ⟨st1.l.set st1.at_ (d, rest), st1.at_, st1.bad⟩ d k d rest hI2 (List.getElem?_set_self hl1) (by omega) (by omega) (by omega)
    have hro := read_ok k .block d ⟨st1.l.set st1.at_ (d, rest), st1.at_, st1.bad⟩ hI2 (by simp only [YMsz]; omega) trivial
    generalize readF k .block d ⟨st1.l.set st1.at_ (d, rest), st1.at_, st1.bad⟩ = q at *
    obtain ⟨v, st2⟩ := q
    dsimp only at hR
    obtain ⟨k1, k2⟩ := hbl.two cap m
    have hsz1 : sizeL (out ++ [v]) = sizeL out + v.size := by rw [sizeL_append]; simp [sizeL]
    have hfit := hro.fit
    have hwle := hro.w
    simp only [YMsz] at hfit hwle
    refine kW ?_
    refine kP [.c [.int .i64 j, .str (toB t)]] ?_ ?_
    ·((repeat' apply And.intro) <;> first | exact kD | (intro hgd; refine ⟨?_, kG⟩; (repeat' apply And.intro) <;> first | exact kD | skip) | skip)
     all_goals first | exact hat | skip
    refine kW ?_
    refine kP [.c [.int .i64 j, .str (toB t)]] ?_ ?_
    ·((repeat' apply And.intro) <;> first | exact kD | (intro hgd; refine ⟨?_, kG⟩; (repeat' apply And.intro) <;> first | exact kD | skip) | skip)
     all_goals first | exact hat | skip
    refine AK.weak (fr' := frOf [(0, .np 2000000 0), (1, .int .i64 j), (4, .ptr 4 0), (5, .ptr 5 0), (7, .int .i64 d)]) (st' := ⟨boxOf [(4, [.int .i64 0, .bool false, .int .i64 0, .str ⟨#[]⟩, .lst .nil 6 [], .lst .nil 7 []], false), (5, [.int .i64 4, .bool false, .int .i64 0, .str ⟨#[]⟩, .lst (.own 76 (r 76)) 6 (rowsV out), .lst .nil 7 []], false), (2000000, cellsY ⟨st1.l.set st1.at_ (d, rest), st1.at_, st1.bad⟩ cap, false), (2000001, rowY (st1.l.set st1.at_ (d, rest)) m, false)], r⟩) (Weak.introN ⟨kI, kI, kI, kI, ⟨_, rfl, .of_eq (congrArg _ hw2)⟩, trivial⟩ ⟨kJ, kJ, ⟨_, rfl, leL_of_eq (congrArg (fun z => [AV.sli 2000001 2 z cap, .int .i64 (st1.at_ : Int), .int .i64 st1.bad]) List.length_set.symm)⟩, ⟨_, rfl, leL_of_eq ((congrArg (fun z => (rowY st1.l m).take (st1.at_ * 2) ++ [AV.int .i64 z, .str (toB rest)] ++ (rowY st1.l m).drop (st1.at_ * 2 + 2)) hw2).trans (rowY_set (d, rest) m hl1))⟩, trivial⟩ rfl rfl ⟨rfl, noFrs_Y _ _, trivial⟩) ?_
    refine AK.rega fw0 [.s [2000000, 2000001] (boxY (st2) cap m) ((vA (v)))] (frOf [(0, .np 2000000 0), (1, .int .i64 j), (4, .ptr 4 0), (5, .ptr 5 0)]) ⟨boxOf [(4, [.int .i64 0, .bool false, .int .i64 0, .str ⟨#[]⟩, .lst .nil 6 [], .lst .nil 7 []], false), (5, [.int .i64 4, .bool false, .int .i64 0, .str ⟨#[]⟩, .lst (.own 76 (r 76 + 1)) 6 (rowsV out ++ [(vC (v))]), .lst .nil 7 []], false), (2000000, cellsY st2 cap, false), (2000001, rowY st2.l m, false)], upd r 76 (r 76 + 1)⟩ ?_ ?_
    ·(repeat' (first | exact trivial | apply And.intro))
     all_goals first | exact rfl | exact k1 | exact k2 _ | (simp only [rowsV_len, List.length_nil, List.length_cons]; omega) | (show _ ∨ _; exact .inl rfl) | exact Weak.introN ⟨kI, kI, kI, kI, trivial⟩ ⟨kJ, kJ, kJ, kJ, trivial⟩ rfl rfl ⟨rfl, noFrs_Y _ _, trivial⟩ | skip
    ·refine kW ?_
     refine AK.lp ⟨(upd r 76 (r 76 + 1), out ++ [v], st2, k), ⟨hR, hro.inv, by dsimp only; rw [hsz1]; omega, by dsimp only; omega, hrd.snoc hro.ord hro.sb⟩, (Weak.introN ⟨kI, kI, kI, kI, trivial⟩ ⟨kJ, ⟨_, rfl, .refl _, .refl _, .refl _, .refl _, ?_, .refl _, trivial⟩, kJ, kJ, trivial⟩ rfl rfl ⟨rfl, noFrs_Y _ _, trivial⟩), by dsimp only; omega⟩
     dsimp only
     rw [rowsV_snoc, cellsV_eq]
     exact .refl _
  ·have hc : ¬ (j = i ∧ isItem t = true) := fun ⟨e1, e2⟩ => by subst e1; simp [e2] at hb
   rw [if_neg hc] at hR
   subst hR
   refine AK.exit rfl ?_
   refine kW ?_
   refine AK.ret ⟨⟨_, rfl, ?_⟩, ⟨_, rfl, rfl⟩, ⟨_, rfl, told_rowY _ _⟩, trivial⟩
   rfl
end Go.Proofs.YtnpkejnaeemgjaaGreatDoor
/-
 yaml's reader: pairs, walked; block of any lines.
-/
namespace Go.Proofs.YtnpkejnaeemgjaaGreatDoor
open Go.RowKit
set_option maxHeartbeats 1000000 in
theorem pairs_a {N : Nat} (hB : BlkOk N) (hN : N ≤ 100000000) (st : YR) (i n : Nat) (hI : YInv st) (hi : i ≤ 1000000) (hw : st.w ≤ N + 1) (hn : 3 * st.w + 1 ≤ n) : RdA 119 (.int .i64 i) st (readF n (.pairs []) i st) := fun cap m => by
 have hmm := treeMap_a [] (by simp [sizeM])
 generalize hR : readF n (.pairs []) i st = R
 refine MS.enter Tryz.func119 a_yaml_reader_pairs_ok a_yaml_reader_pairs_cb (by rfl) (okIn_Y _ cap m _ rfl) fun E hE => ?_
 show AK _ _ _ [.c b_yaml_reader_pairs] _ _
 rw [b_yaml_reader_pairs]
 refine kW ?_
 refine kQ [.v ((vA ((vMap []))))] ?_
 refine kW ?_
 refine AK.loopI (fun x : List (ByteArray × V) × YR × Nat => (frOf [(0, .np 2000000 0), (1, .int .i64 i), (4, .ptr 4 0), (5, .ptr 5 0)], ⟨boxOf [(4, [.int .i64 0, .bool false, .int .i64 0, .str ⟨#[]⟩, .lst .nil 6 [], .lst .nil 7 []], false), (5, (vC ((vMap x.1))), false), (2000000, cellsY x.2.1 cap, false), (2000001, rowY x.2.1.l m, false)], fun _ => 0⟩))
  (fun x => readF x.2.2 (.pairs x.1) i x.2.1 = R ∧ YInv x.2.1 ∧ x.2.1.w + sizeM x.1 ≤ st.w ∧ 3 * x.2.1.w + 1 ≤ x.2.2 ∧ RdM x.1) (fun x => x.2.1.w) ([], st, n) ⟨hR, hI, by dsimp only [sizeM]; omega, hn, List.Pairwise.nil, fun x hx => by cases hx⟩
  (Weak.introN ⟨kI, kI, kI, kI, trivial⟩ ⟨kJ, kJ, kJ, kJ, trivial⟩ rfl rfl ⟨rfl, noFrs_Y _ _, trivial⟩) fun ⟨out, st1, k⟩ ⟨hR, hI1, hz, hk, hrd⟩ => ?_
 dsimp only at hR hI1 hz hk hrd
 dsimp only
 clear hI hn
 obtain ⟨k, rfl⟩ : ∃ q, k = q + 1 := ⟨k - 1, by omega⟩
 unfold readF at hR
 refine kW ?_
 cases hx : st1.l[st1.at_]? with
 | none =>
  rw [hx] at hR
  dsimp only at hR
  have hzd : decide ((st1.at_ : Int) < (st1.l.length : Int)) = false := by have := List.getElem?_eq_none_iff.1 hx; simpa using this
  refine kP [.c [.int .i64 0, .str ⟨#[]⟩]] ?_ ?_
  ·((repeat' apply And.intro) <;> first | exact kD | (intro hgd; refine ⟨?_, kG⟩; (repeat' apply And.intro) <;> first | exact kD | skip) | skip)
   all_goals (exfalso; rw [hzd] at hgd; simp [gd] at hgd)
  rw [hzd]
  refine kC (fun hb => ?_) fun hb => ?_
  ·cases hb
  ·subst hR
   refine AK.exit rfl ?_
   refine kW ?_
   refine AK.ret ⟨⟨_, rfl, ?_⟩, ⟨_, rfl, rfl⟩, ⟨_, rfl, told_rowY _ _⟩, trivial⟩
   rfl
 | some x =>
  obtain ⟨j, t⟩ := x
  rw [hx] at hR
  dsimp only at hR
  have hl1 := (List.getElem?_eq_some_iff.1 hx).1
  have hat := rowY_at m hx
  have hzd : decide ((st1.at_ : Int) < (st1.l.length : Int)) = true := by simpa using hl1
  refine kP [.c [.int .i64 j, .str (toB t)]] ?_ ?_
  ·((repeat' apply And.intro) <;> first | exact kD | (intro hgd; refine ⟨?_, kG⟩; (repeat' apply And.intro) <;> first | exact kD | skip) | skip)
   all_goals first | exact hat | skip
  rw [hzd]
  refine kC (fun hb => ?_) fun hb => ?_
  ·have hc : j = i := by
    have h2 : (j : Int) = i := by simpa using hb
    omega
   rw [if_pos hc] at hR
   subst hc
   have hln := hI1.ln _ (List.mem_of_getElem? hx)
   have hlz := hI1.len
   have hwx := YR.w_at hx
   simp only at hln hwx
   have hsp := split_a t (by omega)
   rw [splitA_eq] at hsp
   have hit := item_a t
   have hgt := treeGet_o (vMap out) (toB ((splitL t).getD ([], [])).1) (vMap_ord hrd.1 fun p hp => (hrd.2 p hp).2.1) (by rw [vMap_size]; omega)
   have hw1 : IntKind.i64.wrap ((st1.at_ : Int) + 1) = ((st1.at_ + 1 : Nat) : Int) := by rw [wrap_in (by omega) (by omega)]; omega
   clear hb hzd
   have hfail : ∀ e, (V.null, st1.fail e) = R → _ := fun e h => (h ▸ fail_a st1 e : RdA 82 (.int .i64 e) st1 R).two cap m
   refine kW ?_
   refine kP [.c [.int .i64 j, .str (toB t)], .v (.tup [.str (toB ((splitL t).getD ([], [])).1), .str (toB ((splitL t).getD ([], [])).2), .bool (splitL t).isSome])] ?_ ?_
   ·((repeat' apply And.intro) <;> first | exact kD | (intro hgd; refine ⟨?_, kG⟩; (repeat' apply And.intro) <;> first | exact kD | skip) | skip)
    all_goals first | exact hat | skip
   refine kW ?_
   refine kP [.c [.int .i64 j, .str (toB t)], .v (.bool (isItem t))] ?_ ?_
   ·((repeat' apply And.intro) <;> first | exact kD | (intro hgd; refine ⟨?_, kG⟩; (repeat' apply And.intro) <;> first | exact kD | skip) | skip)
    all_goals first | exact hat | skip
   refine kC (fun hb => ?_) fun hb => ?_
   ·have h10 : (V.null, st1.fail 10) = R := by
     cases hi2 : isItem t with
     | true => rw [hi2] at hR; exact hR
     | false =>
      rw [hi2] at hR hb
      rw [if_neg (by simp)] at hR
      cases hs2 : splitL t with
      | none => rw [hs2] at hR; exact hR
      | some q => rw [hs2] at hb; simp at hb
    obtain ⟨k1, k2⟩ := hfail 10 h10
    refine kW ?_
    refine kP [.s [2000000, 2000001] (boxY (R.2) cap m) ((vA (R.1)))] ?_ ?_
    ·((repeat' apply And.intro) <;> first | exact kD | (intro hgd; refine ⟨?_, kG⟩; (repeat' apply And.intro) <;> first | exact kD | skip) | skip)
     all_goals first | exact k1 | exact k2 _ | skip
    refine kW ?_
    refine AK.ret ⟨⟨_, rfl, ?_⟩, ⟨_, rfl, rfl⟩, ⟨_, rfl, told_rowY _ _⟩, trivial⟩
    rfl
   ·have hi2 : isItem t = false := by
     cases h : isItem t with
     | false => rfl
     | true => rw [h] at hb; simp at hb
    have hs2 : (splitL t).isSome = true := by
     cases h : (splitL t).isSome with
     | true => rfl
     | false => rw [h, hi2] at hb; simp at hb
    obtain ⟨q, hq⟩ := Option.isSome_iff_exists.1 hs2
    obtain ⟨key, rest⟩ := q
    obtain ⟨z1, z2⟩ := split_len hq
    rw [hi2, if_neg (by simp), hq] at hR
    simp only at hR
    rw [hq] at hgt hsp
    simp only [Option.getD_some] at hgt hsp
    clear hb hs2
    rw [hq]
    simp only [Option.getD_some]
    have hne := ne_toB rest
    refine kW ?_
    refine kQ [.v (.tup [(vA (((mfind (toB key) out).getD V.null))), .bool (mfind (toB key) out).isSome])] ?_
    refine kW ?_
    refine kC (fun hb => ?_) fun hb => ?_
    ·simp only [hb, if_true] at hR
     obtain ⟨k1, k2⟩ := hfail 13 hR
     refine kW ?_
     refine kP [.s [2000000, 2000001] (boxY (R.2) cap m) ((vA (R.1)))] ?_ ?_
     ·((repeat' apply And.intro) <;> first | exact kD | (intro hgd; refine ⟨?_, kG⟩; (repeat' apply And.intro) <;> first | exact kD | skip) | skip)
      all_goals first | exact k1 | exact k2 _ | skip
     refine kW ?_
     refine AK.ret ⟨⟨_, rfl, ?_⟩, ⟨_, rfl, rfl⟩, ⟨_, rfl, told_rowY _ _⟩, trivial⟩
     rfl
    ·simp only [hb, Bool.false_eq_true, if_false] at hR
     have hms := fun v => minsert_le (toB key) v out
     refine kW ?_
     rw [hne]
     refine kC (fun hb => ?_) fun hb => ?_
     ·have hnil : rest = [] := by simpa [List.isEmpty_iff] using hb
      rw [if_pos hnil] at hR
      have hbl := hB.below (i := j) (n := k) (hI1.next hx) (by omega) (by omega)
      have hro := read_ok k .below j ⟨st1.l, st1.at_ + 1, st1.bad⟩ (hI1.next hx) (by simp only [YMsz]; omega) trivial
      generalize readF k .below j ⟨st1.l, st1.at_ + 1, st1.bad⟩ = q at *
      obtain ⟨v, st2⟩ := q
      dsimp only at hR
      obtain ⟨k1, k2⟩ := hbl.two cap m
      have hfit := hro.fit
      have hwle := hro.w
      simp only [YMsz] at hfit hwle
      have hms := hms v
      have hpt := treePut_o (vMap out) (toB key) v (vMap_ord hrd.1 fun p hp => (hrd.2 p hp).2.1) (by rw [vMap_size]; omega)
      refine kW ?_
      refine kP [.s [2000000, 2000001] (boxY (st2) cap m) ((vA (v)))] ?_ ?_
      ·((repeat' apply And.intro) <;> first | exact kD | (intro hgd; refine ⟨?_, kG⟩; (repeat' apply And.intro) <;> first | exact kD | skip) | skip)
       all_goals first | (rw [hw1]; exact k1) | exact k2 _ | skip
      refine kW ?_
      refine kQ [.v ((vA ((vMap (minsert (toB key) v out)))))] ?_
      refine kW ?_
      exact AK.lp ⟨(minsert (toB key) v out, st2, k), ⟨hR, hro.inv, by dsimp only; omega, by dsimp only; omega, hrd.put (by show key.length ≤ _; omega) hro.ord hro.sb⟩, (Weak.introN ⟨kI, kI, kI, kI, trivial⟩ ⟨kJ, kJ, kJ, kJ, trivial⟩ rfl rfl ⟨rfl, noFrs_Y _ _, trivial⟩), by dsimp only; omega⟩
     ·have hnil : rest ≠ [] := by simpa [List.isEmpty_iff] using hb
      rw [if_neg hnil] at hR
      have hbl := inline_a ⟨st1.l, st1.at_ + 1, st1.bad⟩ rest (by omega)
      have hro := inl_ok (hI1.next hx) (s := rest) (by omega)
      generalize inlS rest ⟨st1.l, st1.at_ + 1, st1.bad⟩ = q at *
      obtain ⟨v, st2⟩ := q
      dsimp only at hR hro
      obtain ⟨c1, c2, c3, c4, c5, c6⟩ := hro
      obtain ⟨k1, k2⟩ := hbl.two cap m
      have hms := hms v
      have hpt := treePut_o (vMap out) (toB key) v (vMap_ord hrd.1 fun p hp => (hrd.2 p hp).2.1) (by rw [vMap_size]; omega)
      refine kW ?_
      refine kP [.s [2000000, 2000001] (boxY (st2) cap m) ((vA (v)))] ?_ ?_
      ·((repeat' apply And.intro) <;> first | exact kD | (intro hgd; refine ⟨?_, kG⟩; (repeat' apply And.intro) <;> first | exact kD | skip) | skip)
       all_goals first | (rw [hw1]; exact k1) | exact k2 _ | skip
      refine kW ?_
      refine kQ [.v ((vA ((vMap (minsert (toB key) v out)))))] ?_
      refine kW ?_
      exact AK.lp ⟨(minsert (toB key) v out, st2, k), ⟨hR, c3, by dsimp only; omega, by dsimp only; omega, hrd.put (by show key.length ≤ _; omega) c1 c2⟩, (Weak.introN ⟨kI, kI, kI, kI, trivial⟩ ⟨kJ, kJ, kJ, kJ, trivial⟩ rfl rfl ⟨rfl, noFrs_Y _ _, trivial⟩), by dsimp only; omega⟩
  ·have hc : ¬ (j = i) := fun e1 => by subst e1; simp at hb
   rw [if_neg hc] at hR
   subst hR
   refine AK.exit rfl ?_
   refine kW ?_
   refine AK.ret ⟨⟨_, rfl, ?_⟩, ⟨_, rfl, rfl⟩, ⟨_, rfl, told_rowY _ _⟩, trivial⟩
   rfl
theorem blk_ok : ∀ N, N ≤ 100000001 → BlkOk N
 | 0, _ => fun st i n j t hI hx hi hw hn => by
  have := YR.w_at hx
  omega
 | N + 1, hN => fun st i n j t hI hx hi hw hn => by
  obtain ⟨k, rfl⟩ : ∃ k, n = k + 1 := ⟨n - 1, by omega⟩
  exact block_a st i k hI hx (list_a (blk_ok N (by omega)) (by omega) st i k hI hi hw (by omega)) (pairs_a (blk_ok N (by omega)) (by omega) st i k hI hi hw (by omega))
end Go.Proofs.YtnpkejnaeemgjaaGreatDoor
/-
 yaml.Parse, walked.
-/
namespace Go.Proofs.YtnpkejnaeemgjaaGreatDoor
open Go.RowKit
theorem splT_sum (c : UInt8) (s : ByteArray) : ((splT c s).map (·.size)).sum ≤ s.size := by
 have key : ∀ (k : Nat) (s : ByteArray), ((Lib.splitB ⟨#[c]⟩ 0 k s).map (·.size)).sum ≤ s.size := by
  intro k
  induction k with
  | zero => intro s; simp [Lib.splitB]
  | succ k ih =>
   intro s
   rw [Lib.splitB]
   split
   ·simp
   ·have h := ih (s.extract ((Lib.indexB s ⟨#[c]⟩).toNat + (⟨#[c]⟩ : ByteArray).size) s.size)
    have e : (⟨#[c]⟩ : ByteArray).size = 1 := rfl
    rw [ByteArray.size_extract] at h
    rw [List.map_cons, List.sum_cons, ByteArray.size_extract]
    omega
 exact key _ _
theorem oneLine_len {x : Bs} {y : Nat × Bs} (h : oneLine x = some (some y)) : y.1 + y.2.length ≤ x.length := by
 unfold oneLine at h
 have h1 := tl_len (tr (bareL x))
 have h2 := tr_len (bareL x)
 have h3 : (bareL x).length ≤ x.length := by unfold bareL; rw [List.length_take]; omega
 split at h
 ·cases h
 ·rename_i c t he
  rw [he] at h1
  split at h
  ·cases h
  ·cases h
   simp only [List.length_cons] at h1 ⊢
   omega
theorem linesL_ok : ∀ {l : List Bs} {r : List (Nat × Bs)}, linesL l = some r → wAt r ≤ (l.map fun x => x.length).sum + l.length ∧ ∀ y ∈ r, y.1 + y.2.length ≤ (l.map fun x => x.length).sum
 | [], r, h => by cases h; exact ⟨Nat.le_refl _, fun y hy => by cases hy⟩
 | x :: l, r, h => by
  rw [linesL] at h
  cases ho : oneLine x with
  | none => rw [ho] at h; cases h
  | some o =>
   rw [ho] at h
   cases hl : linesL l with
   | none => rw [hl] at h; cases h
   | some p =>
    rw [hl] at h
    cases h
    obtain ⟨h1, h2⟩ := linesL_ok hl
    rw [List.map_cons, List.sum_cons, List.length_cons]
    cases o with
    | none =>
     refine ⟨?_, fun y hy => ?_⟩
     ·show wAt p ≤ _
      omega
     ·have := h2 y hy
      omega
    | some z =>
     have hz := oneLine_len ho
     refine ⟨?_, fun y hy => ?_⟩
     ·show wAt (z :: p) ≤ _
      rw [show wAt (z :: p) = z.2.length + 1 + wAt p from by simp [wAt]]
      omega
     ·rcases List.mem_cons.1 (show y ∈ z :: p from hy) with rfl | hy
      ·omega
      ·have := h2 y hy
       omega
theorem linesT_ok {s : ByteArray} {ls : List (Nat × Bs)} (h : linesT s = some ls) : wAt ls ≤ 2 * s.size + 1 ∧ (∀ y ∈ ls, y.1 + y.2.length ≤ s.size) ∧ ls.length ≤ s.size + 1 := by
 obtain ⟨h1, h2⟩ := linesL_ok h
 have h3 := linesL_len h
 have h4 := splT_sum 10 s
 have h5 := splT_le 10 s
 have e : ((splT 10 s).map fun x => x.data.toList).map (fun x => x.length) = (splT 10 s).map (·.size) := by
  rw [List.map_map]; rfl
 rw [e] at h1 h2
 rw [List.length_map] at h1 h3
 exact ⟨by omega, fun y hy => by have := h2 y hy; omega, by omega⟩
def rhoY (i : Nat) : Nat := if i = 2000000 then 28 else if i = 28 then 2000000 else if i = 2000001 then 1000100 else if i = 1000100 then 2000001 else i
theorem rhoY_inj (i j : Nat) (h : rhoY i = rhoY j) : i = j := by
 unfold rhoY at h
 repeat' split at h
 all_goals omega
theorem rhoY_mp (i : Nat) : isMp (rhoY i) = isMp i := by
 unfold rhoY
 repeat' split
 all_goals first | (subst_vars; rfl) | rfl
theorem ren_rowY (ρ : Nat → Nat) (l : List (Nat × Bs)) (m : Nat) : (rowY l m).map (AV.ren ρ) = rowY l m := by
 refine (List.map_congr_left fun x hx => ?_).trans (List.map_id _)
 rcases rowY_mem hx with ⟨n, rfl⟩ | ⟨s, rfl⟩ | rfl <;> rfl
abbrev boxP (st : YR) (cap m : Nat) : List (Nat × List AV) := [(28, [.sli 1000100 2 st.l.length cap, .int .i64 (st.at_ : Int), .int .i64 st.bad]), (1000100, rowY st.l m)]
theorem boxP_ren (st : YR) (cap m : Nat) : renS rhoY (boxY st cap m) = boxP st cap m := by
 show [(rhoY 2000000, [AV.sli (rhoY 2000001) 2 st.l.length cap, _, _]), (rhoY 2000001, (rowY st.l m).map (AV.ren rhoY))] = _
 rw [ren_rowY]
 rfl
theorem okS_P (st : YR) (cap m : Nat) (v : V) (b : Nat → Option (List AV × Bool)) : (okS [28, 1000100] (boxP st cap m) ((vA (v))) && freeIds b (newIds [28, 1000100] (boxP st cap m))) = true := by
 have h : (rowY st.l m).all (AV.inS (domS (boxP st cap m))) = true := List.all_eq_true.2 fun x hx => by
  rcases rowY_mem hx with ⟨n, rfl⟩ | ⟨s, rfl⟩ | rfl <;> rfl
 unfold okS
 simp only [List.all_cons, List.all_nil, h]
 rfl
theorem RdA.own {f : FuncId} {n : Int} {st : YR} {R : V × YR} (h : RdA f (.int .i64 n) st R) (cap m : Nat) : MS Tryz.prog f [(28, [.sli 1000100 2 st.l.length cap, .int .i64 (st.at_ : Int), .int .i64 st.bad]), (1000100, (rowY st.l m).map AV.told)] [.np 28 0, .int .i64 n] (boxP R.2 cap m) ((vA (R.1))) ∧ ∀ b, (okS [28, 1000100] (boxP R.2 cap m) ((vA (R.1))) && freeIds b (newIds [28, 1000100] (boxP R.2 cap m))) = true := by
 rw [told_rowY]
 have h2 := (h cap m).ren rhoY rhoY_inj rhoY_mp
 rw [boxP_ren, boxP_ren] at h2
 exact ⟨h2, fun b => okS_P _ _ _ _ _⟩
theorem parse_a (s : ByteArray) : AC Tryz.prog 45 [.str s] (.tup [(vA ((parseL s).1)), .int .i64 (parseL s).2]) := by
 generalize hR : parseL s = R
 unfold parseL at hR
 refine kE Tryz.func45 a_yaml_Parse_ok a_yaml_Parse_cb fun E hE => ?_
 refine kW ?_
 refine kC (fun hb => ?_) fun hb => ?_
 ·have hz : 65536 < s.size := by
   have : (s.size : Int) > 65536 := by simpa using hb
   omega
  rw [if_pos hz] at hR
  subst hR
  refine kW ?_
  refine AK.ret ⟨_, rfl, ?_⟩
  rfl
 have hz : ¬ 65536 < s.size := by
  have : ¬ (s.size : Int) > 65536 := by simpa using hb
  omega
 rw [if_neg hz] at hR
 rw [show linesL ((splT 10 s).map fun x => x.data.toList) = linesT s from rfl] at hR
 refine kW ?_
 cases hls : linesT s with
 | none =>
  rw [hls] at hR
  dsimp only at hR
  subst hR
  have h := lines_none s (by omega) hls
  refine kQ [.v (.tup [.lst .any 2 [], .int .i64 12])] ?_
  refine kW ?_
  refine kC (fun hb => ?_) fun hb => ?_
  ·refine kW ?_
   refine AK.ret ⟨_, rfl, ?_⟩
   rfl
  ·cases hb
 | some ls =>
  rw [hls] at hR
  dsimp only at hR
  cases ls with
  | nil =>
   subst hR
   have h := lines_nil s (by omega) hls
   have hN := treeNull_a
   refine kQ [.v (.tup [.lst .any 2 [], .int .i64 0])] ?_
   refine kW ?_
   refine kC (fun hb => ?_) fun hb => ?_
   ·cases hb
   ·refine kW ?_
    refine kC (fun hb => ?_) fun hb => ?_
    ·refine kW ?_
     refine kQ [.v ((vA (V.null)))] ?_
     refine kW ?_
     refine AK.ret ⟨_, rfl, ?_⟩
     rfl
    ·cases hb
  | cons x l =>
   have h := lines_mt s (by omega) hls (by simp)
   obtain ⟨b1, b2, b3⟩ := linesT_ok hls
   refine kQ [.t 2 (rowsLn (x :: l)) [.int .i64 0]] ?_
   refine kW ?_
   refine kC (fun hb => ?_) fun hb => ?_
   ·cases hb
   ·refine kW ?_
    refine kC (fun hb => ?_) fun hb => ?_
    ·simp [rowsLn_len] at hb
     omega
    ·clear hb
     obtain ⟨i, t⟩ := x
     have hi := b2 (i, t) (by simp)
     simp only at hi
     have hlr : (rowsLn ((i, t) :: l)).length = l.length + 1 := rowsLn_len _
     have hI : YInv ⟨(i, t) :: l, 0, 0⟩ := ⟨Nat.zero_le _, by simp only [List.length_cons] at b3 ⊢; omega, fun y hy => by have := b2 y hy; omega⟩
     have hwy : (YR.mk ((i, t) :: l) 0 0).w = wAt ((i, t) :: l) := rfl
     have hblk := blk_ok 1000000 (by omega) ⟨(i, t) :: l, 0, 0⟩ i (3 * wAt ((i, t) :: l) + 3) i t hI rfl (by omega) (by omega) (by omega)
     have hro := read_ok (3 * wAt ((i, t) :: l) + 3) .block i ⟨(i, t) :: l, 0, 0⟩ hI (by simp only [YMsz]; omega) trivial
     unfold parseT at hR
     dsimp only at hR
     generalize readF (3 * wAt ((i, t) :: l) + 3) .block i ⟨(i, t) :: l, 0, 0⟩ = q at *
     obtain ⟨v, st⟩ := q
     dsimp only at hR
     have hfit := hro.fit
     have hlen := hro.len
     simp only [YMsz] at hfit hlen
     have hchk := treeCheck_a v hro.sb (by omega)
     refine AK.open 4 15 1000100 rfl (by omega) rfl fun cap m hcap hcl => ?_
     obtain ⟨k1, k2⟩ := hblk.own cap m
     refine AK.weak (fr' := frOf [(2, .ptr 2 0), (3, .int .i64 0), (4, .sli 1000100 2 (l.length + 1) cap)]) (st' := ⟨boxOf [(2, [.int .i64 0, .bool false, .int .i64 0, .str ⟨#[]⟩, .lst .nil 6 [], .lst .nil 7 []], false), (1000100, rowY ((i, t) :: l) m, false)], fun _ => 0⟩) (Weak.introN ⟨kI, kI, ⟨_, rfl, .of_eq (congrArg (fun z => AV.sli 1000100 2 z cap) hlr)⟩, trivial⟩ ⟨kJ, ⟨_, rfl, leL_of_eq rfl⟩, trivial⟩ rfl rfl ⟨noFrs_Y _ _, trivial⟩) ?_
     refine kW ?_
     refine kP [.c [.int .i64 i, .str (toB t)], .s [28, 1000100] (boxP st cap m) ((vA (v)))] ?_ ?_
     ·((repeat' apply And.intro) <;> first | exact kD | (intro hgd; refine ⟨?_, kG⟩; (repeat' apply And.intro) <;> first | exact kD | skip) | skip)
      all_goals first | exact rfl | exact k1 | exact k2 _ | skip
     clear k1 k2 hblk
     simp only [List.length_cons] at hlen hR
     refine kW ?_
     refine kQ [] ?_
     refine kC (fun hb => ?_) fun hb => ?_
     ·have h1 : st.bad = 0 ∧ st.at_ < l.length + 1 := by
       have h2 : st.bad = 0 ∧ (st.at_ : Int) < ((l.length + 1 : Nat) : Int) := by simpa using hb
       exact ⟨h2.1, by omega⟩
      rw [if_neg (by simp [h1.1]), if_pos h1.2] at hR
      subst hR
      obtain ⟨f1, f2⟩ := (fail_a st 10).own cap m
      have e1 : (st.fail 10).bad = 10 := by unfold YR.fail; rw [if_pos h1.1]
      refine kW ?_
      refine kP [.s [28, 1000100] (boxP (st.fail 10) cap m) ((vA (V.null)))] ?_ ?_
      ·((repeat' apply And.intro) <;> first | exact kD | (intro hgd; refine ⟨?_, kG⟩; (repeat' apply And.intro) <;> first | exact kD | skip) | skip)
       all_goals first | exact f1 | exact f2 _ | skip
      refine kW ?_
      rw [e1]
      refine kC (fun hb => ?_) fun hb => ?_
      ·refine kW ?_
       refine AK.rega fw0 [] (frOf [(2, .ptr 2 0), (3, .int .i64 (st.fail 10).bad)]) ⟨boxOf [(2, [.int .i64 0, .bool false, .int .i64 0, .str ⟨#[]⟩, .lst .nil 6 [], .lst .nil 7 []], false)], fun _ => 0⟩ ?_ ?_
       ·(repeat' (first | exact trivial | apply And.intro))
        all_goals exact Weak.intro ⟨kI, kI, trivial⟩ ⟨kJ, trivial⟩ rfl rfl
       refine kW ?_
       refine AK.ret ⟨_, rfl, ?_⟩
       rw [e1]
       rfl
      ·simp at hb
     ·refine kW ?_
      refine kC (fun hb => ?_) fun hb => ?_
      ·have h1 : st.bad ≠ 0 := by simpa using hb
       rw [if_pos h1] at hR
       subst hR
       refine kW ?_
       refine AK.rega fw0 [] (frOf [(2, .ptr 2 0), (3, .int .i64 st.bad)]) ⟨boxOf [(2, [.int .i64 0, .bool false, .int .i64 0, .str ⟨#[]⟩, .lst .nil 6 [], .lst .nil 7 []], false)], fun _ => 0⟩ ?_ ?_
       ·(repeat' (first | exact trivial | apply And.intro))
        all_goals exact Weak.intro ⟨kI, kI, trivial⟩ ⟨kJ, trivial⟩ rfl rfl
       refine kW ?_
       refine AK.ret ⟨_, rfl, ?_⟩
       rfl
      ·rename_i hb0
       have h1 : st.bad = 0 := by simpa using hb
       have h2 : ¬ st.at_ < l.length + 1 := fun h => by
        have h3 : (st.at_ : Int) < ((l.length + 1 : Nat) : Int) := by omega
        rw [h1] at hb0
        have h4 : decide ((st.at_ : Int) < ((l.length + 1 : Nat) : Int)) = true := decide_eq_true h3
        rw [h4] at hb0
        simp at hb0
       rw [if_neg (by simp [h1]), if_neg h2] at hR
       refine kW ?_
       refine kQ [.v (.int .i64 v.checkC)] ?_
       refine kW ?_
       refine kC (fun hb => ?_) fun hb => ?_
       ·have h3 : v.checkC ≠ 0 := by simpa using hb
        rw [if_pos h3] at hR
        subst hR
        refine kW ?_
        refine AK.ret ⟨_, rfl, ?_⟩
        rfl
       ·have h3 : v.checkC = 0 := by simpa using hb
        rw [if_neg (by simp [h3])] at hR
        subst hR
        refine kW ?_
        refine AK.ret ⟨_, rfl, ?_⟩
        rfl
end Go.Proofs.YtnpkejnaeemgjaaGreatDoor
