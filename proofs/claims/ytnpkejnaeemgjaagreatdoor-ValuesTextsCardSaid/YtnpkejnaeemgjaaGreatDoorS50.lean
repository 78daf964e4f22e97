/-
  The texts that the claim wants, one behind the other: part 50.
-/
import Derived.Test.YtnpkejnaeemgjaaGreatDoorS49
set_option linter.unusedSimpArgs false
set_option linter.unusedVariables false
namespace Go.Proofs.YtnpkejnaeemgjaaGreatDoor
open Go.RowKit
theorem wtL_drop {l : List V} {k deep n : Nat} {x : V} (h : l[k]? = some x) : wtL (l.drop k) deep n = if 6000 < n + x.wt deep then (n + x.wt deep, true) else wtL (l.drop (k + 1)) deep (n + x.wt deep) := by
 rw [drop_at h, wtL]
theorem wtM_drop {l : List (ByteArray × V)} {k deep n : Nat} {y : ByteArray} {x : V} (h : l[k]? = some (y, x)) : wtM (l.drop k) deep n = if 6000 < n + (x.wt deep + y.size) then (n + (x.wt deep + y.size), true) else wtM (l.drop (k + 1)) deep (n + (x.wt deep + y.size)) := by
 rw [drop_at h, wtM]
theorem wt_deep {v : V} {deep : Nat} (h : 40 < deep) : v.wt deep = 1048576 := by rw [V.wt_eq, if_pos h]
theorem wt_list {v : V} {deep : Nat} (h : ¬ 40 < deep) (h2 : (wtL v.l (deep + 1) (1 + v.s.size)).2 = true) : v.wt deep = (wtL v.l (deep + 1) (1 + v.s.size)).1 := by rw [V.wt_eq, if_neg h, if_pos h2]
theorem wt_map {v : V} {deep n : Nat} (h : ¬ 40 < deep) (h2 : wtL v.l (deep + 1) (1 + v.s.size) = (n, false)) : v.wt deep = (wtM v.m (deep + 1) n).1 := by rw [V.wt_eq, if_neg h, h2]; rfl
theorem weight_a (N : Nat) : ∀ (v : V) (deep : Nat), v.size ≤ N → v.sb → deep ≤ 41 → AC Tryz.prog 72 [(vA (v)), .int .i64 deep] (.int .i64 (v.wt deep : Nat)) := by
 induction N with
 | zero => intro v _ h; have := v.size_pos; omega
 | succ N ih =>
  intro v deep hn hsb hd
  have hve := v.size_eq
  have hss := sb_s hsb
  have hll := len_le_sizeL v.l
  have hlm := len_le_sizeM v.m
  obtain ⟨hl1, hl2⟩ := sb_len hsb
  refine kE Tryz.func72 a_law01_weight_ok a_law01_weight_cb fun E hE => ?_
  refine kW ?_
  refine kC (fun hb => ?_) fun hb => ?_
  ·have h1 : 40 < deep := by have : (40 : Int) < deep := by simpa using hb
                             omega
   refine kW ?_
   refine AK.ret ⟨_, rfl, ?_⟩
   exact congrArg (AV.int _) (by rw [wt_deep h1]; rfl)
  have h1 : ¬ 40 < deep := by have : (deep : Int) ≤ 40 := by simpa using hb
                              omega
  refine kW ?_
  refine AK.loopI (fun i : Nat × Nat => (frOf [(1, .int .i64 deep), (2, .ptr 2 0), (5, .int .i64 (i.2 : Nat)), (17, .lst .any 6 (rowsV v.l)), (18, .int .i64 (rowsV v.l).length), (19, .int .i64 i.1)], ⟨boxOf [(2, (vC (v)), false)], fun _ => 0⟩))
   (fun i => i.1 ≤ v.l.length ∧ i.2 ≤ 140737488361328 ∧ wtL (v.l.drop i.1) (deep + 1) i.2 = wtL v.l (deep + 1) (1 + v.s.size)) (fun i => v.l.length - i.1) (0, 1 + v.s.size) ⟨by simp, by simp; omega, rfl⟩ (Weak.intro ⟨kI, kI, kU, kI, kI, kI, trivial⟩ ⟨kJ, trivial⟩ rfl rfl) fun ⟨k, n⟩ ⟨hk, hn6, hr⟩ => ?_
  dsimp only at hk hn6 hr
  refine kW ?_
  refine kC (fun hb => ?_) fun hb => ?_
  ·have hlt : k < v.l.length := by simpa [rowsV_len] using hb
   obtain ⟨x, hg⟩ : ∃ x, v.l[k]? = some x := ⟨_, List.getElem?_eq_getElem hlt⟩
   have hx := sizeL_take hg
   have hx2 := sizeL_take_le v.l (k + 1)
   have hwt := V.wt_sb (sb_l hsb hg) (deep := deep + 1) (by omega)
   rw [wtL_drop hg] at hr
   refine kW ?_
   refine kP [.c (vC (x))] ?_ ?_
   ·((repeat' apply And.intro) <;> first | exact kD | (intro hgd; refine ⟨?_, kG⟩; (repeat' apply And.intro) <;> first | exact kD | skip) | skip)
    ·exact rowsV_at hg
   refine kW ?_
   refine kP [.v (.int .i64 (x.wt (deep + 1) : Nat))] ?_ ?_
   ·((repeat' apply And.intro) <;> first | exact kD | (intro hgd; refine ⟨?_, kG⟩; (repeat' apply And.intro) <;> first | exact kD | skip) | skip)
    ·rw [wrap_in (by omega) (by omega)]
     exact ih x (deep + 1) (by omega) (sb_l hsb hg) (by omega)
   refine kW ?_
   have hw : IntKind.i64.wrap (((k, n).2 : Nat) + (x.wt (deep + 1) : Nat)) = ((n + x.wt (deep + 1) : Nat) : Int) := by
    rw [wrap_in (by omega) (by omega)]; omega
   refine kC (fun hb => ?_) fun hb => ?_
   ·have he : 6000 < n + x.wt (deep + 1) := by
     have : (6000 : Int) < (n + x.wt (deep + 1) : Nat) := by rw [← hw]; simpa using hb
     omega
    rw [if_pos he] at hr
    refine kW ?_
    refine AK.ret ⟨_, rfl, ?_⟩
    exact congrArg (AV.int _) (by rw [wt_list h1 (by rw [← hr]), ← hr, hw])
   ·have he : ¬ 6000 < n + x.wt (deep + 1) := by
     have : ((n + x.wt (deep + 1) : Nat) : Int) ≤ 6000 := by rw [← hw]; simpa using hb
     omega
    rw [if_neg he] at hr
    refine kW ?_
    exact AK.lp ⟨(k + 1, n + x.wt (deep + 1)), ⟨by dsimp only; omega, by dsimp only; omega, hr⟩, Weak.intro ⟨kI, kI, ⟨_, rfl, .of_eq (congrArg _ hw)⟩, kI, kI, kU, trivial⟩ ⟨kJ, trivial⟩ rfl rfl, by dsimp only; omega⟩
  ·have hlt : k = v.l.length := by have : v.l.length ≤ k := by simpa [rowsV_len] using hb
                                   omega
   subst hlt
   rw [List.drop_length, wtL] at hr
   refine AK.exit rfl ?_
   refine kW ?_
   refine AK.loopI (fun i : Nat × Nat => (frOf [(1, .int .i64 deep), (2, .ptr 2 0), (5, .int .i64 (i.2 : Nat)), (34, .lst .any 7 (rowsM v.m)), (35, .int .i64 (rowsM v.m).length), (36, .int .i64 i.1)], ⟨boxOf [(2, (vC (v)), false)], fun _ => 0⟩))
    (fun i => i.1 ≤ v.m.length ∧ i.2 ≤ 140737488361328 ∧ (wtM (v.m.drop i.1) (deep + 1) i.2).1 = v.wt deep) (fun i => v.m.length - i.1) (0, n) ⟨by simp, hn6, (wt_map h1 hr.symm).symm⟩ (Weak.intro ⟨kI, kI, kI, kI, kI, kI, trivial⟩ ⟨kJ, trivial⟩ rfl rfl) fun ⟨k, n⟩ ⟨hk, hn6, hr⟩ => ?_
   dsimp only at hk hn6 hr
   refine kW ?_
   refine kC (fun hb => ?_) fun hb => ?_
   ·have hlt : k < v.m.length := by simpa [rowsM_len] using hb
    obtain ⟨⟨y, x⟩, hg⟩ : ∃ x, v.m[k]? = some x := ⟨_, List.getElem?_eq_getElem hlt⟩
    have hx := sizeM_take hg
    have hx2 := sizeM_take_le v.m (k + 1)
    have hwt := V.wt_sb (sb_m hsb hg).2 (deep := deep + 1) (by omega)
    have hy := (sb_m hsb hg).1
    rw [wtM_drop hg] at hr
    refine kW ?_
    refine kP [.c (.str y :: (vC (x)))] ?_ ?_
    ·((repeat' apply And.intro) <;> first | exact kD | (intro hgd; refine ⟨?_, kG⟩; (repeat' apply And.intro) <;> first | exact kD | skip) | skip)
     ·exact rowsM_at hg
    refine kW ?_
    refine kP [.v (.int .i64 (x.wt (deep + 1) : Nat))] ?_ ?_
    ·((repeat' apply And.intro) <;> first | exact kD | (intro hgd; refine ⟨?_, kG⟩; (repeat' apply And.intro) <;> first | exact kD | skip) | skip)
     ·rw [wrap_in (by omega) (by omega)]
      exact ih x (deep + 1) (by omega) (sb_m hsb hg).2 (by omega)
    refine kW ?_
    have hw : IntKind.i64.wrap (((k, n).2 : Nat) + IntKind.i64.wrap ((x.wt (deep + 1) : Nat) + y.size)) = ((n + (x.wt (deep + 1) + y.size) : Nat) : Int) := by
     rw [wrap_in (n := (x.wt (deep + 1) : Nat) + y.size) (by omega) (by omega), wrap_in (by dsimp only; omega) (by dsimp only; omega)]; dsimp only; omega
    refine kC (fun hb => ?_) fun hb => ?_
    ·have he : 6000 < n + (x.wt (deep + 1) + y.size) := by
      have : (6000 : Int) < (n + (x.wt (deep + 1) + y.size) : Nat) := by rw [← hw]; simpa using hb
      omega
     rw [if_pos he] at hr
     refine kW ?_
     refine AK.ret ⟨_, rfl, ?_⟩
     exact congrArg (AV.int _) (by rw [← hr, hw])
    ·have he : ¬ 6000 < n + (x.wt (deep + 1) + y.size) := by
      have : ((n + (x.wt (deep + 1) + y.size) : Nat) : Int) ≤ 6000 := by rw [← hw]; simpa using hb
      omega
     rw [if_neg he] at hr
     refine kW ?_
     exact AK.lp ⟨(k + 1, n + (x.wt (deep + 1) + y.size)), ⟨by dsimp only; omega, by dsimp only; omega, hr⟩, Weak.intro ⟨kI, kI, ⟨_, rfl, .of_eq (congrArg _ hw)⟩, kI, kI, kU, trivial⟩ ⟨kJ, trivial⟩ rfl rfl, by dsimp only; omega⟩
   ·have hlt : k = v.m.length := by have : v.m.length ≤ k := by simpa [rowsM_len] using hb
                                    omega
    subst hlt
    rw [List.drop_length, wtM] at hr
    refine AK.exit rfl ?_
    refine kW ?_
    refine AK.ret ⟨_, rfl, ?_⟩
    exact congrArg (AV.int _) (by rw [← hr])
theorem light_a (v : V) (hsb : v.sb) : AC Tryz.prog 30 [(vA (v))] (.bool v.light_) := by
 refine kE Tryz.func30 a_law01_Light_ok a_law01_Light_cb fun E hE => ?_
 refine kW ?_
 refine kP [.v (.int .i64 (v.wt 0 : Nat))] ?_ ?_
 ·((repeat' apply And.intro) <;> first | exact kD | (intro hgd; refine ⟨?_, kG⟩; (repeat' apply And.intro) <;> first | exact kD | skip) | skip)
  ·exact weight_a _ v 0 (Nat.le_refl _) hsb (by omega)
 refine kW ?_
 refine AK.ret ⟨_, rfl, ?_⟩
 refine congrArg AV.bool ?_
 rw [V.light_, Bool.eq_iff_iff]
 simp
 omega
theorem right_drop {l : List V} {k : Nat} {x : V} (h : l[k]? = some x) : rightB (l.drop k) = ((x.light_ && decide (x.checkC = 0)) && rightB (l.drop (k + 1))) := by
 unfold rightB; rw [drop_at h, List.all_cons]
theorem right_a (l : List V) (hl : l.length ≤ 2000000000000) (h : ∀ x ∈ l, x.sb) : AC Tryz.prog 10 [.lst .any 6 (rowsV l)] (.bool (rightB l)) := by
 refine kE Tryz.func10 a_law01_Right_ok a_law01_Right_cb fun E hE => ?_
 refine kW ?_
 refine AK.loopI (fun k : Nat => (frOf [(5, .lst .any 6 (rowsV l)), (6, .int .i64 (rowsV l).length), (7, .int .i64 k)], ⟨boxOf [], fun _ => 0⟩))
  (fun k => k ≤ l.length ∧ rightB (l.drop k) = rightB l) (fun k => l.length - k) 0 ⟨by simp, rfl⟩ (Weak.intro ⟨kI, kI, kI, trivial⟩ trivial rfl rfl) fun k ⟨hk, hr⟩ => ?_
 refine kW ?_
 refine kC (fun hb => ?_) fun hb => ?_
 ·have hlt : k < l.length := by simpa [rowsV_len] using hb
  obtain ⟨x, hg⟩ : ∃ x, l[k]? = some x := ⟨_, List.getElem?_eq_getElem hlt⟩
  have hxs := h x (List.mem_of_getElem? hg)
  rw [right_drop hg] at hr
  refine kW ?_
  refine kP [.c (vC (x))] ?_ ?_
  ·((repeat' apply And.intro) <;> first | exact kD | (intro hgd; refine ⟨?_, kG⟩; (repeat' apply And.intro) <;> first | exact kD | skip) | skip)
   ·exact rowsV_at hg
  refine kW ?_
  refine kP [.v (.bool x.light_), .v (.int .i64 x.checkC)] ?_ ?_
  ·((repeat' apply And.intro) <;> first | exact kD | (intro hgd; refine ⟨?_, kG⟩; (repeat' apply And.intro) <;> first | exact kD | skip) | skip)
   ·exact light_a x hxs
   ·exact refCheck_a x hxs (by have := V.light_size (show x.light_ = true by simpa [gd] using hgd); omega)
  refine kC (fun hb => ?_) fun hb => ?_
  ·have he : (x.light_ && decide (x.checkC = 0)) = false := by rcases (show x.light_ = false ∨ ¬ x.checkC = 0 by simpa using hb) with h | h <;> simp [h]
   rw [he, Bool.false_and] at hr
   refine kW ?_
   refine AK.ret ⟨_, rfl, ?_⟩
   exact congrArg AV.bool hr
  ·have he : (x.light_ && decide (x.checkC = 0)) = true := by simpa using hb
   rw [he, Bool.true_and] at hr
   refine kW ?_
   exact AK.lp ⟨k + 1, ⟨by omega, hr⟩, Weak.intro ⟨kI, kI, kU, trivial⟩ trivial rfl rfl, by omega⟩
 ·have hlt : k = l.length := by have : l.length ≤ k := by simpa [rowsV_len] using hb
                                omega
  subst hlt
  rw [List.drop_length] at hr
  refine AK.exit rfl ?_
  refine kW ?_
  refine AK.ret ⟨_, rfl, ?_⟩
  exact congrArg AV.bool (by rw [← hr]; rfl)
def right11 (v : V) : Bool := rightB [v] && decide (v.kind = 5)
theorem right11_a (v : V) (hsb : v.sb) : AC Tryz.prog 5 [(vA (v))] (.bool (right11 v)) := by
 have hR := right_a [v] (by simp) (fun x hx => by rw [List.mem_singleton.1 hx]; exact hsb)
 rw [show rowsV [v] = [(vC (v))] from by rw [rowsV, rowsV, cellsV_eq]] at hR
 refine kE Tryz.func5 a_law11_right_ok a_law11_right_cb fun E hE => ?_
 refine kW ?_
 refine kQ [.v (.bool (rightB [v]))] ?_
 refine kW ?_
 refine AK.ret ⟨_, rfl, ?_⟩
 rfl
theorem right11_iff {v : V} (h : right11 v = true) : v.light_ = true ∧ v.checkC = 0 ∧ v.kind = 5 := by
 simp only [right11, rightB, List.all_cons, List.all_nil, Bool.and_true, Bool.and_eq_true, decide_eq_true_eq] at h
 exact ⟨h.1.1, h.1.2, h.2⟩
theorem same_first {a b : V} : (!decide (a.kind = b.kind) || (a.b != b.b) || !decide (a.n = b.n) || !decide (a.s = b.s) || !decide (((rowsV a.l).length : Int) = (rowsV b.l).length) || !decide (((rowsM a.m).length : Int) = (rowsM b.m).length)) = true → a ≠ b := by
 rintro h rfl
 simp at h
theorem same_rest {a b : V} (h : (!decide (a.kind = b.kind) || (a.b != b.b) || !decide (a.n = b.n) || !decide (a.s = b.s) || !decide (((rowsV a.l).length : Int) = (rowsV b.l).length) || !decide (((rowsM a.m).length : Int) = (rowsM b.m).length)) = false) :
  a.kind = b.kind ∧ a.b = b.b ∧ a.n = b.n ∧ a.s = b.s ∧ a.l.length = b.l.length ∧ a.m.length = b.m.length := by
 simp only [rowsV_len, rowsM_len, Bool.or_eq_false_iff, Bool.not_eq_false', decide_eq_true_eq, bne_eq_false_iff_eq] at h
 obtain ⟨⟨⟨⟨⟨h1, h2⟩, h3⟩, h4⟩, h5⟩, h6⟩ := h
 exact ⟨h1, h2, h3, h4, by omega, by omega⟩
theorem same_no {a b : V} (h : a ≠ b) : AV.bool false = .bool (a.sameB b) := by rw [V.sameB_false.2 h]
theorem take_more {α : Type} {l m : List α} {k : Nat} {x y : α} (h : l.take k = m.take k) (hx : l[k]? = some x) (hy : m[k]? = some y) (e : x = y) : l.take (k + 1) = m.take (k + 1) := by rw [take_snoc hx, take_snoc hy, h, e]
set_option maxRecDepth 4000 in
theorem refSame_a (n : Nat) : ∀ a b : V, a.size ≤ n → a.size ≤ 2000000000000 → AC Tryz.prog 17 [(vA (a)), (vA (b))] (.bool (a.sameB b)) := by
 induction n with
 | zero => intro v _ h; have := v.size_pos; omega
 | succ n ih =>
  intro a b hn hsz
  have hve := a.size_eq
  have hll := len_le_sizeL a.l
  have hlm := len_le_sizeM a.m
  refine kE Tryz.func17 a_ref01_Same_ok a_ref01_Same_cb fun E hE => ?_
  refine kW ?_
  refine kQ [] ?_
  refine kC (fun hb => ?_) fun hb => ?_
  ·refine kW ?_
   refine AK.ret ⟨_, rfl, ?_⟩
   exact same_no (same_first hb)
  obtain ⟨e1, e2, e3, e4, e5, e6⟩ := same_rest hb
  clear hb
  refine kW ?_
  refine AK.loopI (fun k : Nat => (frOf [(2, .ptr 2 0), (3, .ptr 3 0), (5, .int .i64 k)], ⟨boxOf [(2, (vC (a)), false), (3, (vC (b)), false)], fun _ => 0⟩)) (fun k => k ≤ a.l.length ∧ a.l.take k = b.l.take k) (fun k => a.l.length - k) 0 ⟨by omega, rfl⟩ (Weak.intro ⟨kI, kI, kI, trivial⟩ ⟨kJ, kJ, trivial⟩ rfl rfl) fun k ⟨hk, hr⟩ => ?_
  refine kW ?_
  refine kC (fun hb => ?_) fun hb => ?_
  ·have hlt : k < a.l.length := by simpa [rowsV_len] using hb
   obtain ⟨x, hg⟩ : ∃ x, a.l[k]? = some x := ⟨_, List.getElem?_eq_getElem hlt⟩
   obtain ⟨y, hy⟩ : ∃ x, b.l[k]? = some x := ⟨_, List.getElem?_eq_getElem (by omega)⟩
   have hx := sizeL_take hg
   have hx2 := sizeL_take_le a.l (k + 1)
   refine kW ?_
   refine kP [.c (vC (x)), .c (vC (y)), .v (.bool (x.sameB y))] ?_ ?_
   ·((repeat' apply And.intro) <;> first | exact kD | (intro hgd; refine ⟨?_, kG⟩; (repeat' apply And.intro) <;> first | exact kD | skip) | skip)
    ·exact rowsV_at hg
    ·exact rowsV_at hy
    ·exact ih x y (by omega) (by omega)
   refine kC (fun hb => ?_) fun hb => ?_
   ·have he : x ≠ y := V.sameB_false.1 (by simpa using hb)
    refine kW ?_
    refine AK.ret ⟨_, rfl, ?_⟩
    exact same_no (by rintro rfl; rw [hg] at hy; exact he (Option.some.inj hy))
   ·have he : x = y := V.sameB_true.1 (by simpa using hb)
    refine kW ?_
    exact AK.lp ⟨k + 1, ⟨by omega, take_more hr hg hy he⟩, Weak.intro ⟨kI, kI, kU, trivial⟩ ⟨kJ, kJ, trivial⟩ rfl rfl, by omega⟩
  ·have hlt : k = a.l.length := by have : a.l.length ≤ k := by simpa [rowsV_len] using hb
                                   omega
   subst hlt
   have e7 : a.l = b.l := by rw [List.take_length, e5, List.take_length] at hr; exact hr
   clear hr
   refine AK.exit rfl ?_
   refine kW ?_
   refine AK.loopI (fun k : Nat => (frOf [(2, .ptr 2 0), (3, .ptr 3 0), (6, .int .i64 k)], ⟨boxOf [(2, (vC (a)), false), (3, (vC (b)), false)], fun _ => 0⟩)) (fun k => k ≤ a.m.length ∧ a.m.take k = b.m.take k) (fun k => a.m.length - k) 0 ⟨by omega, rfl⟩ (Weak.intro ⟨kI, kI, kI, trivial⟩ ⟨kJ, kJ, trivial⟩ rfl rfl) fun k ⟨hk, hr⟩ => ?_
   refine kW ?_
   refine kC (fun hb => ?_) fun hb => ?_
   ·have hlt : k < a.m.length := by simpa [rowsM_len] using hb
    obtain ⟨⟨p, x⟩, hg⟩ : ∃ x, a.m[k]? = some x := ⟨_, List.getElem?_eq_getElem hlt⟩
    obtain ⟨⟨q, y⟩, hy⟩ : ∃ x, b.m[k]? = some x := ⟨_, List.getElem?_eq_getElem (by omega)⟩
    have hx := sizeM_take hg
    have hx2 := sizeM_take_le a.m (k + 1)
    refine kW ?_
    refine kP [.c (.str p :: (vC (x))), .c (.str q :: (vC (y))), .c (.str p :: (vC (x))), .c (.str q :: (vC (y))), .v (.bool (x.sameB y))] ?_ ?_
    ·((repeat' apply And.intro) <;> first | exact kD | (intro hgd; refine ⟨?_, kG⟩; (repeat' apply And.intro) <;> first | exact kD | skip) | skip)
     ·exact rowsM_at hg
     ·exact rowsM_at hy
     ·exact rowsM_at hg
     ·exact rowsM_at hy
     ·exact ih x y (by omega) (by omega)
    refine kC (fun hb => ?_) fun hb => ?_
    ·have he : ¬ (p = q ∧ x = y) := by
      rintro ⟨rfl, rfl⟩
      rw [V.sameB_true.2 rfl] at hb
      simp at hb
     refine kW ?_
     refine AK.ret ⟨_, rfl, ?_⟩
     exact same_no (by rintro rfl; rw [hg] at hy; cases hy; exact he ⟨rfl, rfl⟩)
    ·have he : p = q ∧ x = y := by
      simp only [Bool.or_eq_false_iff, Bool.not_eq_false', decide_eq_true_eq] at hb
      exact ⟨hb.1, V.sameB_true.1 hb.2⟩
     refine kW ?_
     exact AK.lp ⟨k + 1, ⟨by omega, take_more hr hg hy (by rw [he.1, he.2])⟩, Weak.intro ⟨kI, kI, kU, trivial⟩ ⟨kJ, kJ, trivial⟩ rfl rfl, by omega⟩
   ·have hlt : k = a.m.length := by have : a.m.length ≤ k := by simpa [rowsM_len] using hb
                                    omega
    subst hlt
    have e8 : a.m = b.m := by rw [List.take_length, e6, List.take_length] at hr; exact hr
    refine AK.exit rfl ?_
    refine kW ?_
    refine AK.ret ⟨_, rfl, ?_⟩
    exact congrArg AV.bool (V.sameB_true.2 (V.ext_iff'.2 ⟨e1, e2, e3, e4, e7, e8⟩)).symm
def emE (v : V) : ByteArray := v.emit wordB prB
def swI (a b i : Nat) : Nat := if i = a then b else if i = b then a else i
theorem swI_inj {a b : Nat} (i j : Nat) (h : swI a b i = swI a b j) : i = j := by
 unfold swI at h
 repeat' split at h
 all_goals omega
theorem swI_mp {a b : Nat} (hab : isMp a = isMp b) (i : Nat) : isMp (swI a b i) = isMp i := by
 unfold swI
 split
 ·rename_i h; rw [h, hab]
 ·split
  ·rename_i h; rw [h, hab]
  ·rfl
structure Rgt (v : V) : Prop where
 good : v.good
 nb : Nb v
 check : v.checkC = 0
 kind : v.kind = 5
 w : v.w ≤ 20000
theorem Rgt.size {v : V} (h : Rgt v) : v.size ≤ 4096 := (V.check_good h.check).2.1
theorem Rgt.ord {v : V} (h : Rgt v) : v.ord := h.good.ord
theorem Rgt.tx {v : V} (h : Rgt v) : v.tx := good_tx h.good (by have := h.size; omega)
theorem parse_em {v : V} (hg : v.good) (hn : Nb v) (hc : v.checkC = 0) (hz : (emE v).size ≤ 65536) : parseL (emE v) = (v, 0) := parse_emit (fit_all v.size v (Nat.le_refl _) hg hn) hc hz
theorem emit_em {v : V} (hg : v.good) (hn : Nb v) (hw : v.w ≤ 60000) (hs : v.size ≤ 6000) : AC Tryz.prog 6 [(vA (v))] (.str (emE v)) := refEmit_a v ⟨hg, hn⟩ hw hs
theorem emE_size {v : V} (hn : Nb v) (hw : v.w ≤ 20000) (hs : v.size ≤ 4096) : (emE v).size ≤ 1000000000 := by
 have h1 := prB_size v hn
 have h2 := lay_bound v.size v 0 (Nat.le_refl _) hn (by omega)
 have h3 := w_pos v
 have z : (⟨#[10]⟩ : ByteArray).size = 1 := rfl
 have h4 : v.w * 20000 ≤ 20000 * 20000 := Nat.mul_le_mul_right _ hw
 unfold emE V.emit
 split
 ·rw [ByteArray.size_append]
  omega
 ·omega
theorem notes_null : parseL ⟨#[35, 32, 110, 111, 116, 104, 105, 110, 103]⟩ = (V.null, 0) := by kernel_rfl
theorem empty_null : parseL ⟨#[]⟩ = (V.null, 0) := by kernel_rfl
theorem newOk {T : ByteArray} {v : V} (hz : T.size ≤ 65536) (hp : parseL T = (v, 0)) (h5 : v.kind = 5) : MS Tryz.prog 8 [] [.lst .any 2 (rowsF (twoF T))] (chS 23 ⟨#[97]⟩ ⟨#[98]⟩ v) (.tup [.np 23 0, .str ⟨#[]⟩, .int .i64 0]) := by
 have h := newTwo_m T
 have ho : ownV (vMap []) T = (v, 0) := by
  unfold ownV
  rw [hp, if_neg (by simp), if_neg (by rw [h5]; decide), if_neg (by rw [h5]; simp)]
 have hr : twoR T = none := by
  unfold twoR
  rw [if_neg (by omega), ho, if_neg (by simp)]
 unfold twoS twoA at h
 rw [hr, ho] at h
 exact h
theorem newBig {T : ByteArray} (hz : 65536 < T.size) : MS Tryz.prog 8 [] [.lst .any 2 (rowsF (twoF T))] [] (.tup [.raw (.pointer none), .str vaN, .int .i64 6]) := by
 have h := newTwo_m T
 have hr : twoR T = some (vaN, 6) := by
  unfold twoR
  rw [if_pos hz]
 unfold twoS twoA at h
 rw [hr] at h
 exact h
theorem ofP_none (own : V) (texts : List ByteArray) : ofP own texts [] = if (ofTexts (overV (vMap []) own) texts).2 ≠ 0 then (V.null, (ofTexts (overV (vMap []) own) texts).2) else ((ofTexts (overV (vMap []) own) texts).1, 0) := by
 unfold ofP
 rw [ofSets]
theorem of_one {own a : V} {p : ByteArray} (hp : parseL p = (a, 0)) (ha : a.kind = 5) : ofP own [p] [] = if (overV (overV (vMap []) own) a).checkC ≠ 0 then (V.null, (overV (overV (vMap []) own) a).checkC) else (overV (overV (vMap []) own) a, 0) := by
 rw [ofP_none, texts_one hp ha]
 by_cases h : (overV (overV (vMap []) own) a).checkC ≠ 0
 ·simp only [if_pos h]
 ·simp only [if_neg h]
  rw [ofTexts, if_neg (by simp)]
theorem of_two {own a b : V} {p q : ByteArray} (hp : parseL p = (a, 0)) (ha : a.kind = 5) (hq : parseL q = (b, 0)) (hb : b.kind = 5) : ofP own [p, q] [] = if (overV (overV (vMap []) own) a).checkC ≠ 0 then (V.null, (overV (overV (vMap []) own) a).checkC) else if (overV (overV (overV (vMap []) own) a) b).checkC ≠ 0 then (V.null, (overV (overV (overV (vMap []) own) a) b).checkC) else (overV (overV (overV (vMap []) own) a) b, 0) := by
 rw [ofP_none, texts_one hp ha]
 by_cases h : (overV (overV (vMap []) own) a).checkC ≠ 0
 ·simp only [if_pos h]
 ·simp only [if_neg h]
  rw [texts_one hq hb]
  by_cases k : (overV (overV (overV (vMap []) own) a) b).checkC ≠ 0
  ·simp only [if_pos k]
  ·simp only [if_neg k]
   rw [ofTexts, if_neg (by simp)]
theorem of_four {own a b : V} {p q : ByteArray} (hp : parseL p = (a, 0)) (ha : a.kind = 5) (hq : parseL q = (b, 0)) (hb : b.kind = 5) : ofP own [p, ⟨#[35, 32, 110, 111, 116, 104, 105, 110, 103]⟩, q, ⟨#[]⟩] [] = ofP own [p, q] [] := by
 rw [of_two hp ha hq hb, ofP_none, texts_one hp ha]
 by_cases h : (overV (overV (vMap []) own) a).checkC ≠ 0
 ·simp only [if_pos h]
 ·simp only [if_neg h]
  rw [texts_null notes_null, texts_one hq hb]
  by_cases k : (overV (overV (overV (vMap []) own) a) b).checkC ≠ 0
  ·simp only [if_pos k]
  ·simp only [if_neg k]
   rw [texts_null empty_null, ofTexts, if_neg (by simp)]
theorem base_plain {own : V} (h : Rgt own) : (overV (vMap []) own).ord ∧ (overV (vMap []) own).plain ∧ (overV (vMap []) own).tx ∧ Nb (overV (vMap []) own) ∧ (overV (vMap []) own).w ≤ own.w ∧ (overV (vMap []) own).size ≤ 100000 := by
 obtain ⟨f1, f2, f3⟩ := overV_facts vMap0_ord h.ord vMap0_tx h.tx
 have hz := h.size
 have h0 : (vMap []).size = 1 := by rw [vMap_size]; rfl
 rw [overV_empty h.kind] at *
 exact ⟨f1, strip_plain _ _ (Nat.le_refl _), f2, strip_nb _ _ (Nat.le_refl _) h.nb, strip_w _ _ (Nat.le_refl _), by omega⟩
theorem again_rgt {own a : V} (h : Rgt own) (ha : Rgt a) (hw : own.w ≤ 6000) (hwa : a.w ≤ 6000) (hc : (overV (overV (vMap []) own) a).checkC = 0) : Rgt (overV (overV (vMap []) own) a) := by
 obtain ⟨b1, b2, b3, b4, b5, b6⟩ := base_plain h
 have := over_w a.size (overV (vMap []) own) a (Nat.le_refl _)
 exact ⟨(V.check_good hc).1, over_nb _ _ _ (Nat.le_refl _) b4 ha.nb, hc, (over_kind _ _ _).trans ha.kind, by unfold overV at *; omega⟩
theorem again_same {own a : V} (h : Rgt own) (ha : Rgt a) (hc : (overV (overV (vMap []) own) a).checkC = 0) : overV (vMap []) (overV (overV (vMap []) own) a) = overV (overV (vMap []) own) a := by
 obtain ⟨b1, b2, b3, b4, b5, b6⟩ := base_plain h
 obtain ⟨f1, f2, f3⟩ := overV_facts b1 ha.ord b3 ha.tx
 have hp : (overV (overV (vMap []) own) a).plain := over_plain a.size _ a (Nat.le_refl _) b2
 have hk : (overV (overV (vMap []) own) a).kind = 5 := (over_kind _ _ _).trans ha.kind
 generalize overV (overV (vMap []) own) a = v at *
 rw [overV_empty hk]
 exact strip_same _ _ (Nat.le_refl _) f1 hp
theorem rgt_of {v : V} (h : right11 v = true) (hn : Nb v) : Rgt v ∧ v.w ≤ 6000 := by
 obtain ⟨h1, h2, h3⟩ := right11_iff h
 have := (V.light_iff h1).1
 exact ⟨⟨(V.check_good h2).1, hn, h2, h3, by omega⟩, this⟩
set_option maxHeartbeats 8000000 in
theorem valuesTexts_a (own a b : V) (so : own.sb) (sa : a.sb) (sb : b.sb) (no : Nb own) (na : Nb a) (nb : Nb b) : AC Tryz.prog 4 [(vA (own)), (vA (a)), (vA (b))] (.bool true) := by
 have hA := awake11_a
 have r1 := right11_a own so
 have r2 := right11_a a sa
 have r3 := right11_a b sb
 by_cases hr : (right11 own && right11 a && right11 b) = true
 case neg =>
  refine kE Tryz.func4 a_law11_ValuesTexts_ok a_law11_ValuesTexts_cb fun E hE => ?_
  generalize right11 own = b1 at *
  generalize right11 a = b2 at *
  generalize right11 b = b3 at *
  refine kW ?_
  refine kP [.v (.bool b1), .v (.bool b2), .v (.bool b3), .v (.str ⟨#[]⟩), .v (.str ⟨#[]⟩), .v (.str ⟨#[]⟩)] ?_ ?_
  ·((repeat' apply And.intro) <;> first | exact kD | (intro hgd; refine ⟨?_, kG⟩; (repeat' apply And.intro) <;> first | exact kD | skip) | skip)
   all_goals (exfalso; cases b1 <;> cases b2 <;> cases b3 <;> simp_all [gd])
  refine kC (fun hb => ?_) fun hb => ?_
  ·refine kW ?_
   refine kQ [.v (.bool true)] ?_
   refine kW ?_
   refine AK.ret ⟨_, rfl, ?_⟩
   rfl
  ·exfalso
   cases b1 <;> cases b2 <;> cases b3 <;> simp_all
 case pos =>
  rw [Bool.and_eq_true, Bool.and_eq_true] at hr
  obtain ⟨⟨q1, q2⟩, q3⟩ := hr
  rw [q1] at r1
  rw [q2] at r2
  rw [q3] at r3
  obtain ⟨g1, w1⟩ := rgt_of q1 no
  obtain ⟨g2, w2⟩ := rgt_of q2 na
  obtain ⟨g3, w3⟩ := rgt_of q3 nb
  have e1 := emit_em g1.good g1.nb (by omega) (by have := g1.size; omega)
  have e2 := emit_em g2.good g2.nb (by omega) (by have := g2.size; omega)
  have e3 := emit_em g3.good g3.nb (by omega) (by have := g3.size; omega)
  obtain ⟨p, hp⟩ : ∃ p, emE a = p := ⟨_, rfl⟩
  obtain ⟨q, hq⟩ : ∃ q, emE b = q := ⟨_, rfl⟩
  obtain ⟨T, hT⟩ : ∃ T, emE own = T := ⟨_, rfl⟩
  rw [hp] at e2
  rw [hq] at e3
  rw [hT] at e1
  refine kE Tryz.func4 a_law11_ValuesTexts_ok a_law11_ValuesTexts_cb fun E hE => ?_
  refine kW ?_
  refine kQ [.v (.bool true), .v (.bool true), .v (.bool true), .v (.str T), .v (.str p), .v (.str q)] ?_
  have z1 := emE_size g1.nb g1.w g1.size
  have z2 := emE_size g2.nb g2.w g2.size
  have z3 := emE_size g3.nb g3.w g3.size
  rw [hT] at z1
  rw [hp] at z2
  rw [hq] at z3
  have hwr : IntKind.i64.wrap (IntKind.i64.wrap ((T.size : Int) + (p.size : Int)) + (q.size : Int)) = ((T.size + p.size + q.size : Nat) : Int) := by
   rw [wrap_in (n := (T.size : Int) + (p.size : Int)) (by omega) (by omega), wrap_in (by omega) (by omega)]
   omega
  rw [hwr]
  refine kC (fun hb => ?_) fun hb => ?_
  ·refine kW ?_
   refine kQ [.v (.bool true)] ?_
   refine kW ?_
   refine AK.ret ⟨_, rfl, ?_⟩
   rfl
  have hz : T.size + p.size + q.size ≤ 60000 := by
   have : ¬ ((T.size + p.size + q.size : Nat) : Int) > 60000 := by simpa using hb
   omega
  clear hb hwr z1 z2 z3
  have pT : parseL T = (own, 0) := by rw [← hT]; exact parse_em g1.good g1.nb g1.check (by rw [hT]; omega)
  have pp : parseL p = (a, 0) := by rw [← hp]; exact parse_em g2.good g2.nb g2.check (by rw [hp]; omega)
  have pq : parseL q = (b, 0) := by rw [← hq]; exact parse_em g3.good g3.nb g3.check (by rw [hq]; omega)
  have hN := (newOk (by omega) pT g1.kind).ren (swI 23 1000100) swI_inj (swI_mp rfl)
  have hF2 := (of_m ⟨#[97]⟩ ⟨#[98]⟩ own [p, q] [] g1.ord g1.tx g1.size (fun s hs => by cases hs) (by show 2 ≤ _; omega) (by show 0 ≤ _; omega)).ren (swI 2000000 1000100) swI_inj (swI_mp rfl)
  have hF4 := (of_m ⟨#[97]⟩ ⟨#[98]⟩ own [p, ⟨#[35, 32, 110, 111, 116, 104, 105, 110, 103]⟩, q, ⟨#[]⟩] [] g1.ord g1.tx g1.size (fun s hs => by cases hs) (by show 4 ≤ _; omega) (by show 0 ≤ _; omega)).ren (swI 2000000 1000100) swI_inj (swI_mp rfl)
  have hF1 := (of_m ⟨#[97]⟩ ⟨#[98]⟩ own [p] [] g1.ord g1.tx g1.size (fun s hs => by cases hs) (by show 1 ≤ _; omega) (by show 0 ≤ _; omega)).ren (swI 2000000 1000100) swI_inj (swI_mp rfl)
  rw [of_four pp g2.kind pq g3.kind] at hF4
  obtain ⟨X, hX⟩ : ∃ X, ofP own [p, q] [] = X := ⟨_, rfl⟩
  obtain ⟨Y, hY⟩ : ∃ Y, ofP own [p] [] = Y := ⟨_, rfl⟩
  rw [hX] at hF2 hF4
  rw [hY] at hF1
  rw [of_two pp g2.kind pq g3.kind] at hX
  rw [of_one pp g2.kind] at hY
  have hag := again_rgt g1 g2 w1 w2
  have has := again_same g1 g2
  generalize overV (overV (vMap []) own) a = v1 at *
  refine kW ?_
  refine kQ [.v (.str T), .s [] (chS 1000100 ⟨#[97]⟩ ⟨#[98]⟩ own) (.tup [.np 1000100 0, .str ⟨#[]⟩, .int .i64 0])] ?_
  refine kW ?_
  refine kP [] ?_ ?_
  ·((repeat' apply And.intro) <;> first | exact kD | (intro hgd; refine ⟨?_, kG⟩; (repeat' apply And.intro) <;> first | exact kD | skip) | skip)
   all_goals exact fun g o => someCha false g o
  refine kCf ?_
  refine kW ?_
  refine kQ [.v (.str p), .v (.str q)] ?_
  refine kW ?_
  refine kQ [.s [1000100] (chS 1000100 ⟨#[97]⟩ ⟨#[98]⟩ own) (.tup [(vA (X.1)), .int .i64 X.2])] ?_
  refine kW ?_
  refine kQ [.s [1000100] (chS 1000100 ⟨#[97]⟩ ⟨#[98]⟩ own) (.tup [(vA (X.1)), .int .i64 X.2])] ?_
  refine kW ?_
  refine kC (fun hb => ?_) fun hb => ?_
  ·refine kW ?_
   refine kQ [.v (.bool true)] ?_
   refine kW ?_
   refine AK.ret ⟨_, rfl, ?_⟩
   show AV.bool (true && decide (X.2 = X.2)) = _
   simp
  have hX2 : X.2 = 0 := by simpa using hb
  clear hb
  have hc1 : v1.checkC = 0 := by
   by_cases h : v1.checkC ≠ 0
   ·rw [if_pos h] at hX
    rw [← hX] at hX2
    exact absurd hX2 h
   ·omega
  rw [if_neg (by omega)] at hX hY
  have hc2 : (overV v1 b).checkC = 0 := by
   by_cases h : (overV v1 b).checkC ≠ 0
   ·rw [if_pos h] at hX
    rw [← hX] at hX2
    exact absurd hX2 h
   ·omega
  rw [if_neg (by omega)] at hX
  have g4 := hag hc1
  have g5 := has hc1
  have s5 := (V.check_good hc2).2.1
  have e4 := emit_em g4.good g4.nb (by have := g4.w; omega) (by have := g4.size; omega)
  obtain ⟨U, hU⟩ : ∃ U, emE v1 = U := ⟨_, rfl⟩
  rw [hU] at e4
  have hS := refSame_a (overV v1 b).size (overV v1 b) (overV v1 b) (Nat.le_refl _) (by omega)
  rw [V.sameB_true.2 rfl] at hS
  subst hX
  subst hY
  dsimp only
  dsimp only at hF1
  refine kW ?_
  refine kQ [.s [1000100] (chS 1000100 ⟨#[97]⟩ ⟨#[98]⟩ own) (.tup [(vA (v1)), .int .i64 0])] ?_
  by_cases hbig : 65536 < U.size
  ·have hNB := newBig hbig
   refine kW ?_
   refine kQ [.v (.str U), .s [] [] (.tup [.raw (.pointer none), .str vaN, .int .i64 6])] ?_
   refine kW ?_
   refine kQ [.v (.bool true)] ?_
   refine kCf ?_
   refine kW ?_
   refine kCt ?_
   refine kW ?_
   refine kQ [.v (.bool true)] ?_
   refine kW ?_
   refine AK.ret ⟨_, rfl, ?_⟩
   rfl
  ·have pU : parseL U = (v1, 0) := by rw [← hU]; exact parse_em g4.good g4.nb g4.check (by rw [hU]; omega)
   have hN2 := (newOk (by omega) pU g4.kind).ren (swI 23 1000101) swI_inj (swI_mp rfl)
   have hF5 := (of_m ⟨#[97]⟩ ⟨#[98]⟩ v1 [q] [] g4.ord g4.tx g4.size (fun s hs => by cases hs) (by show 1 ≤ _; omega) (by show 0 ≤ _; omega)).ren (swI 2000000 1000101) swI_inj (swI_mp rfl)
   rw [of_one pq g3.kind, g5, if_neg (by omega)] at hF5
   dsimp only at hF5
   refine kW ?_
   refine kQ [.v (.str U), .s [] (chS 1000101 ⟨#[97]⟩ ⟨#[98]⟩ v1) (.tup [.np 1000101 0, .str ⟨#[]⟩, .int .i64 0])] ?_
   refine kW ?_
   refine kQ [.v (.bool true)] ?_
   refine kCf ?_
   refine kW ?_
   refine kCf ?_
   refine kW ?_
   refine kQ [.s [1000101] (chS 1000101 ⟨#[97]⟩ ⟨#[98]⟩ v1) (.tup [(vA ((overV v1 b))), .int .i64 0])] ?_
   refine kW ?_
   refine kQ [.v (.bool true), .v (.bool true)] ?_
   refine kW ?_
   refine AK.ret ⟨_, rfl, ?_⟩
   rfl
end Go.Proofs.YtnpkejnaeemgjaaGreatDoor
