/-
  The texts that the claim wants, one behind the other: part 46.
-/
import Derived.Test.YtgidajjjpeboeaaGreatDoorS45
set_option linter.unusedSimpArgs false
set_option linter.unusedVariables false
namespace Go.Proofs.YtgidajjjpeboeaaGreatDoor
open Go.RowKit Go.Maps Go.MapKept Go.ChangeMaps
noncomputable def cntA (O : List Ob) (s : ByteArray) : Nat := if allOk s O = true then (recsOf s O).length else 0
noncomputable def sumA (N : List ByteArray) (O : List Ob) : Nat := (N.map (cntA O)).sum
theorem sumA_snoc (N : List ByteArray) (s : ByteArray) (O : List Ob) : sumA (N ++ [s]) O = sumA N O + cntA O s := by
 unfold sumA
 rw [List.map_append, List.sum_append]
 simp
theorem cntA_le (O : List Ob) (s : ByteArray) : cntA O s ≤ O.length := by
 unfold cntA
 split
 ·exact recsOf_len s O
 ·omega
theorem sumA_le (N : List ByteArray) (O : List Ob) : sumA N O ≤ N.length * O.length := by
 induction N with
 | nil => show 0 ≤ _; omega
 | cons s N ih =>
  show cntA O s + sumA N O ≤ _
  have := cntA_le O s
  rw [List.length_cons, Nat.add_mul]
  omega
theorem sumA_whole {N : List ByteArray} {O : List Ob} (h : (N.all fun s => allOk s O) = true) : sumA N O = sumR N O := by
 induction N with
 | nil => rfl
 | cons s N ih =>
  rw [List.all_cons, Bool.and_eq_true] at h
  show cntA O s + sumA N O = (recsOf s O).length + sumR N O
  rw [ih h.2]
  unfold cntA
  rw [if_pos h.1]
theorem allR_up {cl : Clu} (hd : cl.down = false) (s : ByteArray) : ∃ (S : List Rc) (e : Int), allR cl s = .tup [.lst .any 7 (rowsR S), .int .i64 e] ∧ (e = if allOk s cl.objects = true then 0 else 35) ∧ S.length = cntA cl.objects s ∧ (allOk s cl.objects = true → S.length = (recsOf s cl.objects).length) := by
 unfold allR cntA
 rw [hd, if_neg (by simp)]
 cases hok : allOk s cl.objects with
 | true =>
  rw [if_pos rfl]
  exact ⟨_, 0, rfl, rfl, (sortR_perm _ _).length_eq, fun _ => (sortR_perm _ _).length_eq⟩
 | false =>
  rw [if_neg (by simp)]
  exact ⟨[], 35, rfl, rfl, rfl, fun h => by cases h⟩
theorem sum_le {st : St} {a b c : Nat} (h : a + b = c) (hc : c ≤ 1000000) : AVle st (.int .i64 (IntKind.i64.wrap ((a : Int) + (b : Int)))) (.int .i64 (c : Int)) := by
 rw [wrap_in (by omega) (by omega), show (a : Int) + (b : Int) = (c : Int) by omega]
 exact .refl _
theorem any_take {l : List ByteArray} {k : Nat} {s other : ByteArray} (h : l[k]? = some s) : ((l.take (k + 1)).any fun x => decide (x = other)) = (((l.take k).any fun x => decide (x = other)) || decide (s = other)) := by
 rw [List.take_add_one, h, List.any_append]
 simp [Option.toList]
theorem all_take {l : List ByteArray} {k : Nat} {s : ByteArray} {f : ByteArray → Bool} (h : l[k]? = some s) : ((l.take (k + 1)).all f) = (((l.take k).all f) && f s) := by
 rw [List.take_add_one, h, List.all_append]
 simp [Option.toList]
set_option maxHeartbeats 4000000 in
theorem historyLists_a (l : List Ob) (other : ByteArray) (hlen : l.length ≤ 4398046511104) (hsb : ∀ o ∈ l, o.v.sb ∧ o.k.size ≤ 140737488355328 ∧ o.s.size ≤ 140737488355328 ∧ o.n.size ≤ 140737488355328) : AC Tryz.prog 4 [.lst .any 9 (rowsO l), .str other] (.bool true) := by
 have hA := awakeHs_a
 have hL : AC Tryz.prog 16 [.lst .any 9 (rowsO l)] (.bool (lightL l)) := lightO_a l (fun o ho => (hsb o ho).1) hlen
 refine kE Tryz.func4 a_law18_HistoryLists_ok a_law18_HistoryLists_cb fun E hE => ?_
 refine kW ?_
 refine kQ [.v (.bool (lightL l))] ?_
 refine kC (fun hb => ?_) fun hb => ?_
 ·refine kW ?_
  refine kQ [.v (.bool true)] ?_
  refine kW ?_
  refine AK.ret ⟨_, rfl, ?_⟩
  rfl
 have hll : lightL l = true := by
  cases h : lightL l with
  | true => rfl
  | false => rw [h] at hb; cases hb
 have hl40 : l.length ≤ 40 ∧ lightO l = true := by
  unfold lightL at hll
  rw [Bool.and_eq_true] at hll
  exact ⟨of_decide_eq_true hll.1, hll.2⟩
 clear hb
 have hG := editsC_G hl40.1 hl40.2 fun o ho => (hsb o ho).1
 have hN := newX_a
 refine kW ?_
 refine kQ [.s [] (cluX 1000100 1900101 Clu.new) (.np 1000100 0)] ?_
 refine kW ?_
 refine AK.loopI (fun k : Nat => (frOf [(1, .str other), (5, .np 1000100 0), (33, .lst .any 9 (rowsO l)), (34, .int .i64 (rowsO l).length), (35, .int .i64 k)], ⟨boxOf (cluV (editsC (l.take k))), fun _ => 0⟩)) (fun k => k ≤ l.length) (fun k => l.length - k) 0 (Nat.zero_le _) (Weak.introN ⟨kI, kI, kI, kI, kI, trivial⟩ ⟨kJ, kJ, trivial⟩ rfl rfl ⟨rfl, rfl, trivial⟩) fun k hk => ?_
 refine kW ?_
 refine kC (fun hb => ?_) fun hb => ?_
 ·have hlt : k < l.length := by simpa [rowsO_len] using hb
  obtain ⟨o, hg⟩ : ∃ x, l[k]? = some x := ⟨_, List.getElem?_eq_getElem hlt⟩
  have hm := List.mem_of_getElem? hg
  have hv : o.v.light_ = true := List.all_eq_true.1 hl40.2 o hm
  have hz := V.light_size hv
  obtain ⟨k1, k2, k3⟩ := hG k hk
  obtain ⟨s1, s2⟩ := hsb o hm
  have hE := editX (editsC (l.take k)) k1 (i := o.id) s2 o.v (by omega) s1
  rw [← editsC_take hg] at hE
  clear hb
  refine kW ?_
  refine kP [.c (obC o)] ?_ ?_
  ·((repeat' apply And.intro) <;> first | exact kD | (intro hgd; refine ⟨?_, kG⟩; (repeat' apply And.intro) <;> first | exact kD | skip) | skip)
   all_goals exact rowsO_at hg
  refine kW ?_
  refine kQ [.s [1000100, 1900101] (cluX 1000100 1900101 (editsC (l.take (k + 1)))) (.int .i64 ((editsC (l.take k)).edit (wrongC o.id o.v) o.id o.v).1)] ?_
  refine kW ?_
  exact AK.lp ⟨k + 1, by omega, Weak.introN ⟨kI, kI, kI, kI, kU, trivial⟩ ⟨kJ, kJ, trivial⟩ rfl rfl ⟨rfl, rfl, trivial⟩, by omega⟩
 have hlt : k = l.length := by
  have : l.length ≤ k := by simpa [rowsO_len] using hb
  omega
 clear hb
 subst hlt
 refine AK.exit rfl ?_
 obtain ⟨g1, g2, g3⟩ := hG l.length (Nat.le_refl _)
 rw [List.take_length] at g1 g2 g3 ⊢
 obtain ⟨w1, w2⟩ := editsC_pow l
 generalize editsC l = cl at *
 have hOl := objects_len g1.k.ok
 have hob := g1.objects
 have hO := objectsX cl g1.k.ok
 have hrel := releasesX cl g1
 have hnl := nameS_len (relsOf cl.objects)
 have hrl := relsOf_len cl.objects
 have hNnd := nameS_nd (relsOf cl.objects)
 have hNm : ∀ s, s ∈ nameS (relsOf cl.objects) ↔ s ∈ relsOf cl.objects := fun s => nameS_mem
 generalize nameS (relsOf cl.objects) = N at *
 have hOz : cl.objects.length ≤ 40 := by omega
 have hNz : N.length ≤ 40 := by omega
 refine kW ?_
 refine kQ [.s [1000100, 1900101] (cluX 1000100 1900101 cl) (.lst .any 1 (rowsT N))] ?_
 refine kW ?_
 refine AK.loopI (fun k : Nat => (frOf [(1, .str other), (5, .np 1000100 0), (8, .int .i64 ((sumA (N.take k) cl.objects : Nat) : Int)), (9, .int .i64 0), (10, .bool ((N.take k).any fun x => decide (x = other))), (11, .bool ((N.take k).all fun s => allOk s cl.objects)), (47, .lst .any 1 (rowsT N)), (48, .int .i64 (rowsT N).length), (49, .int .i64 k)], ⟨boxOf (cluV cl), fun _ => 0⟩)) (fun k => k ≤ N.length) (fun k => N.length - k) 0 (Nat.zero_le _) (Weak.introN ⟨kI, kI, kI, kI, kI, kI, kI, kI, kI, trivial⟩ ⟨kJ, kJ, trivial⟩ rfl rfl ⟨rfl, rfl, trivial⟩) fun k hk => ?_
 refine kW ?_
 refine kC (fun hb => ?_) fun hb => ?_
 ·have hlt : k < N.length := by simpa [rowsT_len] using hb
  obtain ⟨s, hg⟩ : ∃ x, N[k]? = some x := ⟨_, List.getElem?_eq_getElem hlt⟩
  have hsm := (hNm s).1 (List.mem_of_getElem? hg)
  have hall := allX cl g1 s
  obtain ⟨S, e, hR, he, hSl, hSr⟩ := allR_up w1 s
  rw [hR] at hall
  have hsum : sumA (N.take (k + 1)) cl.objects = sumA (N.take k) cl.objects + S.length := by
   rw [List.take_add_one, hg, hSl]
   exact sumA_snoc _ _ _
  have hsz := sumA_le (N.take (k + 1)) cl.objects
  have hsz2 : (N.take (k + 1)).length * cl.objects.length ≤ 40 * 40 := Nat.mul_le_mul (by rw [List.length_take]; omega) hOz
  clear hb
  refine kW ?_
  refine kP [.c [.str s]] ?_ ?_
  ·((repeat' apply And.intro) <;> first | exact kD | (intro hgd; refine ⟨?_, kG⟩; (repeat' apply And.intro) <;> first | exact kD | skip) | skip)
   all_goals exact rowsT_at hg
  refine kW ?_
  refine kQ [.s [1000100, 1900101] (cluX 1000100 1900101 cl) (.tup [.lst .any 7 (rowsR S), .int .i64 e])] ?_
  refine kW ?_
  refine kQ [] ?_
  refine kC (fun hb => ?_) fun hb => ?_
  ·exfalso
   have h2 : (decide (e = 0) && decide (((rowsR S).length : Int) = 0)) = true := hb
   rw [Bool.and_eq_true] at h2
   have h3 : e = 0 := of_decide_eq_true h2.1
   have h4 : S.length = 0 := by simpa [rowsR_len] using h2.2
   cases hok : allOk s cl.objects with
   | true =>
    have := recsOf_pos hsm
    have := hSr hok
    omega
   | false =>
    rw [hok, if_neg (by simp)] at he
    omega
  clear hb
  refine kW ?_
  refine kQ [] ?_
  refine kW ?_
  refine kQ [] ?_
  refine kW ?_
  refine AK.lp ⟨k + 1, by omega, Weak.introN ⟨kI, kI, ⟨_, rfl, ?_⟩, kI, ⟨_, rfl, .of_eq ?_⟩, ⟨_, rfl, .of_eq ?_⟩, kI, kI, kU, trivial⟩ ⟨kJ, kJ, trivial⟩ rfl rfl ⟨rfl, rfl, trivial⟩, by omega⟩
  ·refine sum_le ?_ (by omega)
   rw [hsum, rowsR_len]
  ·rw [any_take hg]
  ·rw [all_take hg]
   show AV.bool (_ && decide (e = 0)) = _
   congr 2
   cases hok : allOk s cl.objects with
   | true =>
    rw [hok, if_pos rfl] at he
    rw [he]
    rfl
   | false =>
    rw [hok, if_neg (by simp)] at he
    rw [he]
    rfl
 have hlt : k = N.length := by
  have : N.length ≤ k := by simpa [rowsT_len] using hb
  omega
 clear hb
 subst hlt
 refine AK.exit rfl ?_
 rw [List.take_length]
 refine kW ?_
 refine kQ [.s [1000100, 1900101] (cluX 1000100 1900101 cl) (.lst .any 9 (rowsO cl.objects))] ?_
 refine kW ?_
 refine AK.loopI (fun k : Nat => (frOf [(1, .str other), (5, .np 1000100 0), (8, .int .i64 ((sumA N cl.objects : Nat) : Int)), (9, .int .i64 (((relsOf (cl.objects.take k)).length : Nat) : Int)), (10, .bool (N.any fun x => decide (x = other))), (11, .bool (N.all fun s => allOk s cl.objects)), (83, .lst .any 9 (rowsO cl.objects)), (84, .int .i64 (rowsO cl.objects).length), (85, .int .i64 k)], ⟨boxOf (cluV cl), fun _ => 0⟩)) (fun k => k ≤ cl.objects.length) (fun k => cl.objects.length - k) 0 (Nat.zero_le _) (Weak.introN ⟨kI, kI, kI, kI, kI, kI, kI, kI, kI, trivial⟩ ⟨kJ, kJ, trivial⟩ rfl rfl ⟨rfl, rfl, trivial⟩) fun k hk => ?_
 refine kW ?_
 refine kC (fun hb => ?_) fun hb => ?_
 ·have hlt : k < cl.objects.length := by simpa [rowsO_len] using hb
  obtain ⟨o, hg⟩ : ∃ x, cl.objects[k]? = some x := ⟨_, List.getElem?_eq_getElem hlt⟩
  have hom := hob o (List.mem_of_getElem? hg)
  have hst := relsOf_take hg
  have how := owner_any o.k o.s o.n hom.2.2.2
  have hrk := relsOf_len (cl.objects.take k)
  rw [List.length_take] at hrk
  clear hb
  refine kW ?_
  refine kP [.c (obC o)] ?_ ?_
  ·((repeat' apply And.intro) <;> first | exact kD | (intro hgd; refine ⟨?_, kG⟩; (repeat' apply And.intro) <;> first | exact kD | skip) | skip)
   all_goals exact rowsO_at hg
  cases hp : ownP o.k o.s o.n with
  | none =>
   rw [hp] at how
   have hro : relOf o = none := by unfold relOf; rw [hp]; rfl
   rw [hro] at hst
   have hst : relsOf (cl.objects.take (k + 1)) = relsOf (cl.objects.take k) := by rw [hst]; exact List.append_nil _
   refine kW ?_
   refine kQ [.v (.tup [.str ⟨#[]⟩, .int .i64 0, .bool false])] ?_
   refine kW ?_
   refine kCf ?_
   refine kW ?_
   exact AK.lp ⟨k + 1, by omega, Weak.introN ⟨kI, kI, kI, ⟨_, rfl, .of_eq (by rw [hst])⟩, kI, kI, kI, kI, kU, trivial⟩ ⟨kJ, kJ, trivial⟩ rfl rfl ⟨rfl, rfl, trivial⟩, by omega⟩
  | some p =>
   rw [hp] at how
   obtain ⟨a, n⟩ := p
   have hro : relOf o = some a := by unfold relOf; rw [hp]; rfl
   rw [hro] at hst
   have hst : relsOf (cl.objects.take (k + 1)) = relsOf (cl.objects.take k) ++ [a] := hst
   refine kW ?_
   refine kQ [.v (.tup [.str a, .int .i64 n, .bool true])] ?_
   refine kW ?_
   refine kCt ?_
   refine kW ?_
   refine AK.lp ⟨k + 1, by omega, Weak.introN ⟨kI, kI, kI, ⟨_, rfl, ?_⟩, kI, kI, kI, kI, kU, trivial⟩ ⟨kJ, kJ, trivial⟩ rfl rfl ⟨rfl, rfl, trivial⟩, by omega⟩
   refine sum_le (b := 1) ?_ ?_ <;> rw [hst, List.length_append, List.length_singleton]
   omega
 have hlt : k = cl.objects.length := by
  have : cl.objects.length ≤ k := by simpa [rowsO_len] using hb
  omega
 clear hb
 subst hlt
 refine AK.exit rfl ?_
 rw [List.take_length]
 have hall := allX cl g1 other
 obtain ⟨S, e, hR, he, hSl, hSr⟩ := allR_up w1 other
 rw [hR] at hall
 refine kW ?_
 refine kQ [.s [1000100, 1900101] (cluX 1000100 1900101 cl) (.tup [.lst .any 7 (rowsR S), .int .i64 e])] ?_
 refine kW ?_
 refine kQ [.v (.bool true)] ?_
 refine kW ?_
 refine AK.ret ⟨_, rfl, ?_⟩
 have f1 : (N.all fun s => allOk s cl.objects) = true → sumA N cl.objects = (relsOf cl.objects).length := fun h => by
  rw [sumA_whole h]
  exact sumR_all hNnd fun s hs => (hNm s).2 hs
 have f2 : (N.any fun x => decide (x = other)) = false → e = 0 ∧ S.length = 0 := fun h => by
  have hno : other ∉ relsOf cl.objects := fun hm => by
   have := List.any_eq_false.1 h other ((hNm other).2 hm)
   simp at this
  obtain ⟨n1, n2⟩ := recsOf_none hno
  rw [n2, if_pos rfl] at he
  refine ⟨he, ?_⟩
  rw [hSr n2, n1]
  rfl
 show AV.bool _ = _
 generalize (N.all fun s => allOk s cl.objects) = b1 at *
 generalize (N.any fun x => decide (x = other)) = b2 at *
 cases b1 <;> cases b2 <;> simp_all [rowsR_len]
end Go.Proofs.YtgidajjjpeboeaaGreatDoor
