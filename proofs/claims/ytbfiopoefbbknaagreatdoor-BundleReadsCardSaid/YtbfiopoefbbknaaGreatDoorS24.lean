/-
  The texts that the claim wants, one behind the other: part 24.
-/
import Derived.Test.YtbfiopoefbbknaaGreatDoorS23
import Derived.Lib.AppendIntMem
import Derived.Test.YtbfiopoefbbknaaGreatDoorChecked
import Derived.KernelRfl
set_option linter.unusedSimpArgs false
set_option linter.unusedVariables false
namespace Go.Proofs.YtbfiopoefbbknaaGreatDoor
open Go.RowKit
inductive Nb : V → Prop where
 | mk {k : Int} {b : Bool} {n : Int} {s : ByteArray} {l : List V} {m : List (ByteArray × V)} (h1 : -9223372036854775808 ≤ n) (h2 : n ≤ 9223372036854775807) (hl : ∀ x ∈ l, Nb x) (hm : ∀ p ∈ m, Nb p.2) : Nb (.mk k b n s l m)
theorem Nb.num {v : V} (h : Nb v) : -9223372036854775808 ≤ v.n ∧ v.n ≤ 9223372036854775807 := by cases h; exact ⟨‹_›, ‹_›⟩
theorem Nb.l {v : V} (h : Nb v) : ∀ x ∈ v.l, Nb x := by cases h; assumption
theorem Nb.m {v : V} (h : Nb v) : ∀ p ∈ v.m, Nb p.2 := by cases h; assumption
theorem good_cases {v : V} (h : v.good) : v = V.null ∨ (∃ b, v = V.bool b) ∨ (∃ n, v = V.int n) ∨ (∃ s, v = V.str s) ∨ (∃ l, v = vList l) ∨ ∃ m, v = vMap m := by
 have hk := (v.good_eq.1 h).1
 obtain ⟨k, b, n, s, l, m⟩ := v
 simp only [V.kind, V.b, V.n, V.s, V.l, V.m] at hk
 unfold kbad at hk
 simp only [Bool.or_eq_false_iff, Bool.and_eq_false_iff, decide_eq_false_iff_not, Decidable.not_not, Nat.not_lt, Nat.le_zero] at hk
 obtain ⟨⟨⟨⟨⟨⟨k0, k5⟩, k1⟩, k2⟩, k3⟩, k4⟩, k6⟩ := hk
 have hl : l.length = 0 → l = [] := List.length_eq_zero_iff.1
 have hm : m.length = 0 → m = [] := List.length_eq_zero_iff.1
 have hcase : k = 0 ∨ k = 1 ∨ k = 2 ∨ k = 3 ∨ k = 4 ∨ k = 5 := by omega
 rcases hcase with rfl | rfl | rfl | rfl | rfl | rfl
 ·refine .inl ?_
  rcases k1 with k1 | rfl
  ·exact absurd k1 (by decide)
  rcases k2 with k2 | rfl
  ·exact absurd k2 (by decide)
  rcases k3 with k3 | rfl
  ·exact absurd k3 (by decide)
  rcases k4 with k4 | k4
  ·exact absurd k4 (by decide)
  rcases k6 with k6 | k6
  ·exact absurd k6 (by decide)
  rw [hl k4, hm k6]
  rfl
 ·refine .inr (.inl ⟨b, ?_⟩)
  rcases k2 with k2 | rfl
  ·exact absurd k2 (by decide)
  rcases k3 with k3 | rfl
  ·exact absurd k3 (by decide)
  rcases k4 with k4 | k4
  ·exact absurd k4 (by decide)
  rcases k6 with k6 | k6
  ·exact absurd k6 (by decide)
  rw [hl k4, hm k6]
  rfl
 ·refine .inr (.inr (.inl ⟨n, ?_⟩))
  rcases k1 with k1 | rfl
  ·exact absurd k1 (by decide)
  rcases k3 with k3 | rfl
  ·exact absurd k3 (by decide)
  rcases k4 with k4 | k4
  ·exact absurd k4 (by decide)
  rcases k6 with k6 | k6
  ·exact absurd k6 (by decide)
  rw [hl k4, hm k6]
  rfl
 ·refine .inr (.inr (.inr (.inl ⟨s, ?_⟩)))
  rcases k1 with k1 | rfl
  ·exact absurd k1 (by decide)
  rcases k2 with k2 | rfl
  ·exact absurd k2 (by decide)
  rcases k4 with k4 | k4
  ·exact absurd k4 (by decide)
  rcases k6 with k6 | k6
  ·exact absurd k6 (by decide)
  rw [hl k4, hm k6]
  rfl
 ·refine .inr (.inr (.inr (.inr (.inl ⟨l, ?_⟩))))
  rcases k1 with k1 | rfl
  ·exact absurd k1 (by decide)
  rcases k2 with k2 | rfl
  ·exact absurd k2 (by decide)
  rcases k3 with k3 | rfl
  ·exact absurd k3 (by decide)
  rcases k6 with k6 | k6
  ·exact absurd k6 (by decide)
  rw [hm k6]
  rfl
 ·refine .inr (.inr (.inr (.inr (.inr ⟨m, ?_⟩))))
  rcases k1 with k1 | rfl
  ·exact absurd k1 (by decide)
  rcases k2 with k2 | rfl
  ·exact absurd k2 (by decide)
  rcases k3 with k3 | rfl
  ·exact absurd k3 (by decide)
  rcases k4 with k4 | k4
  ·exact absurd k4 (by decide)
  rw [hl k4]
  rfl
theorem leafL {l : List V} (h : (vList l).leaf = true) : l = [] := by
 rw [leaf_iff] at h
 exact List.length_eq_zero_iff.1 (by have : l.length + ([] : List (ByteArray × V)).length = 0 := h; simpa using this)
theorem leafM {m : List (ByteArray × V)} (h : (vMap m).leaf = true) : m = [] := by
 rw [leaf_iff] at h
 exact List.length_eq_zero_iff.1 (by have : ([] : List V).length + m.length = 0 := h; simpa using this)
theorem fit_all : ∀ (N : Nat) (v : V), v.size ≤ N → v.good → Nb v → Fit v
 | 0, v, h, _, _ => by have := v.size_pos; omega
 | N + 1, v, h, hg, hn => by
  have ih := fit_all N
  rcases good_cases hg with rfl | ⟨b, rfl⟩ | ⟨n, rfl⟩ | ⟨s, rfl⟩ | ⟨l, rfl⟩ | ⟨m, rfl⟩
  ·exact .leaf rfl leaf_null
  ·exact .leaf rfl (leaf_bool b)
  ·exact .leaf rfl (leaf_int n hn.num.1 hn.num.2)
  ·exact .leaf rfl (leaf_str s)
  ·by_cases hl : l = []
   ·subst hl
    exact .leaf rfl leaf_list
   ·rw [vList_size] at h
    exact .list hl fun x hx => ih x (by have := mem_sizeL hx; omega) (good_l (v := vList l) hg hx) (hn.l x hx)
  ·by_cases hm : m = []
   ·subst hm
    exact .leaf rfl leaf_map
   ·rw [vMap_size] at h
    exact .map hm (rises_all ((vMap m).good_eq.1 hg).2.2.2.2) fun p hp => ih p.2 (by have := mem_sizeM hp; omega) (good_m (v := vMap m) hg hp) (hn.m p hp)
def Gd (v : V) : Prop := v.good ∧ Nb v
theorem Gd.text {v : V} (h : Gd v) : v.s.size ≤ 65536 := by
 have := (v.good_eq.1 h.1).2.1
 unfold textB at this
 rw [Bool.and_eq_true, decide_eq_true_eq] at this
 exact this.2
theorem Gd.keys {v : V} (h : Gd v) : ∀ p ∈ v.m, Gd p.2 ∧ p.1.size ≤ 256 := fun p hp => by
 have := ((goodM_iff _).1 (v.good_eq.1 h.1).2.2.2.1 p hp)
 refine ⟨⟨this.2, h.2.m p hp⟩, ?_⟩
 have hk := this.1
 unfold keyB at hk
 simp only [Bool.and_eq_true, decide_eq_true_eq] at hk
 exact hk.2.2
theorem Gd.parts {v : V} (h : Gd v) : ∀ x ∈ v.l, Gd x := fun x hx => ⟨good_l h.1 hx, h.2.l x hx⟩
theorem refWord_a (s : ByteArray) (hs : s.size ≤ 140737488355328) : AC Tryz.prog 82 [.agg [.int .i64 3, .bool false, .int .i64 0, .str s, .lst .any 6 [], .lst .any 7 []]] (.str (wordB s)) := by
 refine kE Tryz.func82 a_ref04_Print_ok a_ref04_Print_cb fun E hE => ?_
 refine kW ?_
 refine kC (fun hb => ?_) fun hb => ?_
 ·cases hb
 refine kW ?_
 refine kC (fun hb => ?_) fun hb => ?_
 ·cases hb
 refine kW ?_
 refine kC (fun hb => ?_) fun hb => ?_
 ·refine kW ?_
  refine kP [.v (.bool (bareB s))] ?_ ?_
  ·((repeat' apply And.intro) <;> first | exact kD | (intro hgd; refine ⟨?_, kG⟩; (repeat' apply And.intro) <;> first | exact kD | skip) | skip)
   all_goals exact refBare_a s hs
  refine kC (fun hb => ?_) fun hb => ?_
  ·refine kW ?_
   refine AK.ret ⟨_, rfl, ?_⟩
   rw [wordB, if_pos hb]
   rfl
  ·refine kW ?_
   refine kP [.v (.str (quoteB s))] ?_ ?_
   ·((repeat' apply And.intro) <;> first | exact kD | (intro hgd; refine ⟨?_, kG⟩; (repeat' apply And.intro) <;> first | exact kD | skip) | skip)
    all_goals exact refQuote_a s hs
   refine kW ?_
   refine AK.ret ⟨_, rfl, ?_⟩
   rw [wordB, if_neg (by rw [hb]; simp)]
   rfl
 ·cases hb
theorem refPrintAll_a (v : V) (hG : Gd v) (hl : v.leaf = true) : AC Tryz.prog 82 [(vA (v))] (.str (prB v)) := by
 have ht := hG.text
 have hn := hG.2.num
 rcases good_cases hG.1 with rfl | ⟨b, rfl⟩ | ⟨n, rfl⟩ | ⟨s, rfl⟩ | ⟨l, rfl⟩ | ⟨m, rfl⟩
 ·skip
  refine kE Tryz.func82 a_ref04_Print_ok a_ref04_Print_cb fun E hE => ?_
  refine kW ?_
  refine kC (fun hb => ?_) fun hb => ?_
  ·cases hb
  refine kW ?_
  refine kC (fun hb => ?_) fun hb => ?_
  ·cases hb
  refine kW ?_
  refine kC (fun hb => ?_) fun hb => ?_
  ·cases hb
  refine kW ?_
  refine kC (fun hb => ?_) fun hb => ?_
  ·cases hb
  refine kW ?_
  refine kC (fun hb => ?_) fun hb => ?_
  ·cases hb
  refine kW ?_
  refine AK.ret ⟨_, rfl, ?_⟩
  rfl
 ·skip
  refine kE Tryz.func82 a_ref04_Print_ok a_ref04_Print_cb fun E hE => ?_
  refine kW ?_
  refine kC (fun hb => ?_) fun hb => ?_
  ·refine kW ?_
   refine AK.cond (by rfl) (fun hc => ?_) (fun hc => ?_)
   ·have hc : b = true := hc
    subst hc
    refine kW ?_
    refine AK.ret ⟨_, rfl, ?_⟩
    rfl
   ·have hc : b = false := hc
    subst hc
    refine kW ?_
    refine AK.ret ⟨_, rfl, ?_⟩
    rfl
  ·cases hb
 ·have h := digits_a n hn.1 hn.2
  refine kE Tryz.func82 a_ref04_Print_ok a_ref04_Print_cb fun E hE => ?_
  refine kW ?_
  refine kC (fun hb => ?_) fun hb => ?_
  ·cases hb
  refine kW ?_
  refine kC (fun hb => ?_) fun hb => ?_
  ·refine kW ?_
   refine kQ [.v (.str (itB n))] ?_
   refine kW ?_
   refine AK.ret ⟨_, rfl, ?_⟩
   rfl
  ·cases hb
 ·exact refWord_a s (by have : s.size ≤ 65536 := ht; omega)
 ·obtain rfl := leafL hl
  refine kE Tryz.func82 a_ref04_Print_ok a_ref04_Print_cb fun E hE => ?_
  refine kW ?_
  refine kC (fun hb => ?_) fun hb => ?_
  ·cases hb
  refine kW ?_
  refine kC (fun hb => ?_) fun hb => ?_
  ·cases hb
  refine kW ?_
  refine kC (fun hb => ?_) fun hb => ?_
  ·cases hb
  refine kW ?_
  refine kC (fun hb => ?_) fun hb => ?_
  ·refine kW ?_
   refine AK.ret ⟨_, rfl, ?_⟩
   rfl
  ·cases hb
 ·obtain rfl := leafM hl
  refine kE Tryz.func82 a_ref04_Print_ok a_ref04_Print_cb fun E hE => ?_
  refine kW ?_
  refine kC (fun hb => ?_) fun hb => ?_
  ·cases hb
  refine kW ?_
  refine kC (fun hb => ?_) fun hb => ?_
  ·cases hb
  refine kW ?_
  refine kC (fun hb => ?_) fun hb => ?_
  ·cases hb
  refine kW ?_
  refine kC (fun hb => ?_) fun hb => ?_
  ·cases hb
  refine kW ?_
  refine kC (fun hb => ?_) fun hb => ?_
  ·refine kW ?_
   refine AK.ret ⟨_, rfl, ?_⟩
   rfl
  ·cases hb
theorem prB_size (v : V) (hn : Nb v) : (prB v).size ≤ 30 + 2 * v.s.size := by
 have h1 : (itB v.n).size ≤ 21 := Lib.itoa_length_le v.n hn.num.1 hn.num.2
 have h2 := wordB_size v.s
 have e1 : wTrue.size = 4 := rfl
 have e2 : wFalse.size = 5 := rfl
 have e3 : wNull.size = 4 := rfl
 have e4 : (⟨#[91, 93]⟩ : ByteArray).size = 2 := rfl
 have e5 : (⟨#[123, 125]⟩ : ByteArray).size = 2 := rfl
 unfold prB
 repeat' split
 all_goals omega
theorem w_pos (v : V) : 1 + v.s.size ≤ v.w := by rw [V.w_eq]; omega
theorem lay_bound : ∀ (N : Nat) (v : V) (k : Nat), v.size ≤ N → Nb v → k + 2 * v.size ≤ 12200 → (v.lay wordB prB k).size + 20000 ≤ v.w * 20000
 | 0, v, k, h, _, _ => by have := v.size_pos; omega
 | N + 1, v, k, h, hn, hk => by
  have ih := lay_bound N
  have hsz := v.size_eq
  have htail : ∀ x : V, x.size ≤ N → Nb x → k + 2 + 2 * x.size ≤ 12200 → (x.tail wordB prB k).size ≤ x.w * 20000 - 12300 := fun x hx hnx hkx => by
   have hw := w_pos x
   have z1 : (⟨#[32]⟩ : ByteArray).size = 1 := rfl
   have z2 : (⟨#[10]⟩ : ByteArray).size = 1 := rfl
   unfold V.tail
   split
   ·have := prB_size x hnx
    rw [ByteArray.size_append, ByteArray.size_append]
    omega
   ·have := ih x (k + 2) hx hnx (by omega)
    rw [ByteArray.size_append]
    omega
  have key1 : ∀ l : List V, (∀ x ∈ l, x.size ≤ N ∧ Nb x ∧ k + 2 + 2 * x.size ≤ 12200) → (layL wordB prB l k).size ≤ wL l * 20000 := by
   intro l
   induction l with
   | nil => intro _; rw [layL]; exact Nat.zero_le _
   | cons x l ih2 =>
    intro hl
    obtain ⟨a, b, c⟩ := hl x (by simp)
    have h1 := htail x a b c
    have h2 := ih2 fun y hy => hl y (by simp [hy])
    have hw := w_pos x
    have z1 : (⟨#[45]⟩ : ByteArray).size = 1 := rfl
    rw [layL_cons, ByteArray.size_append, ByteArray.size_append, ByteArray.size_append, padB_size, wL]
    omega
  have key2 : ∀ m : List (ByteArray × V), (∀ p ∈ m, p.2.size ≤ N ∧ Nb p.2 ∧ k + 2 + 2 * p.2.size ≤ 12200) → (layM wordB prB m k).size ≤ wM m * 20000 := by
   intro m
   induction m with
   | nil => intro _; rw [layM]; exact Nat.zero_le _
   | cons p m ih2 =>
    intro hm
    obtain ⟨y, x⟩ := p
    obtain ⟨a, b, c⟩ := hm (y, x) (by simp)
    have h1 := htail x a b c
    have h2 := ih2 fun q hq => hm q (by simp [hq])
    have h3 := wordB_size y
    have hw := w_pos x
    have z1 : (⟨#[58]⟩ : ByteArray).size = 1 := rfl
    rw [layM_cons, ByteArray.size_append, ByteArray.size_append, ByteArray.size_append, ByteArray.size_append, padB_size, wM]
    omega
  have h1 := key1 v.l fun x hx => by have := mem_sizeL hx; exact ⟨by omega, hn.l x hx, by omega⟩
  have h2 := key2 v.m fun p hp => by have := mem_sizeM hp; exact ⟨by omega, hn.m p hp, by omega⟩
  rw [V.lay_eq, ByteArray.size_append, V.w_eq]
  omega
theorem padB_snoc (i : Nat) : padB i ++ (⟨#[32]⟩ : ByteArray) = padB (i + 1) := ba_ext (by rw [ba_app_list]; show List.replicate i 32 ++ [32] = List.replicate (i + 1) 32; rw [List.replicate_succ'])
theorem blanks_a (k : Nat) (hk : k ≤ 100000) : AC Tryz.prog 122 [.int .i64 k] (.str (padB k)) := by
 refine kE Tryz.func122 a_ref05_blanks_ok a_ref05_blanks_cb fun E hE => ?_
 refine kW ?_
 refine AK.loopI (fun i : Nat => (frOf [(0, .int .i64 k), (3, .str (padB i)), (4, .int .i64 i)], ⟨boxOf [], fun _ => 0⟩)) (fun i => i ≤ k) (fun i => k - i) 0 (by omega) (Weak.intro ⟨kI, kI, kI, trivial⟩ trivial rfl rfl) fun i hi => ?_
 have hp := padB_size i
 have hs := padB_snoc i
 have z : (⟨#[32]⟩ : ByteArray).size = 1 := rfl
 refine kW ?_
 refine kC (fun hb => ?_) fun hb => ?_
 ·have hlt : i < k := by
   have : (i : Int) < (k : Int) := by simpa using hb
   omega
  refine kW ?_
  refine kQ [] ?_
  refine kW ?_
  exact AK.lp ⟨i + 1, by omega, Weak.intro ⟨kI, ⟨_, rfl, .of_eq (congrArg AV.str hs)⟩, kU, trivial⟩ trivial rfl rfl, by omega⟩
 ·have hlt : i = k := by
   have : ¬ (i : Int) < (k : Int) := by simpa using hb
   omega
  subst hlt
  refine AK.exit rfl ?_
  refine kW ?_
  refine AK.ret ⟨_, rfl, ?_⟩
  rfl
theorem leaf_dec (v : V) : (decide (((rowsV v.l).length : Int) = 0) && decide (((rowsM v.m).length : Int) = 0)) = v.leaf := by
 rw [rowsV_len, rowsM_len, V.leaf]
 cases v.l <;> cases v.m <;> simp <;> omega
theorem empty_a (v : V) : AC Tryz.prog 81 [(vA (v))] (.bool v.leaf) := by
 have h := leaf_dec v
 refine kE Tryz.func81 a_ref05_empty_ok a_ref05_empty_cb fun E hE => ?_
 refine kW ?_
 refine kQ [] ?_
 refine kW ?_
 refine AK.ret ⟨_, rfl, ?_⟩
 exact congrArg AV.bool h
theorem key_a (y : ByteArray) (hy : y.size ≤ 1000000) : AC Tryz.prog 124 [.str y] (.str (wordB y)) := by
 have h := refWord_a y (by omega)
 refine kE Tryz.func124 a_ref05_key_ok a_ref05_key_cb fun E hE => ?_
 refine kW ?_
 refine kQ [.v (.str (wordB y))] ?_
 refine kW ?_
 refine AK.ret ⟨_, rfl, ?_⟩
 rfl
def LayOk (N : Nat) : Prop := ∀ (v : V) (k : Nat), v.size ≤ N → Gd v → v.w ≤ 6000 → k + 2 * v.size ≤ 12200 → AC Tryz.prog 83 [(vA (v)), .int .i64 k] (.str (v.lay wordB prB k))
theorem tail_ra {N : Nat} (hN : LayOk N) (x : V) (k : Nat) (hx : x.size ≤ N) (hG : Gd x) (hw : x.w ≤ 6000) (hk : k + 2 + 2 * x.size ≤ 12200) : AC Tryz.prog 123 [(vA (x)), .int .i64 k] (.str (x.tail wordB prB k)) := by
 have hE := empty_a x
 have hps := prB_size x hG.2
 have ht := hG.text
 have hb1 := lay_bound x.size x (k + 2) (Nat.le_refl _) hG.2 (by omega)
 have z1 : (⟨#[32]⟩ : ByteArray).size = 1 := rfl
 have z2 : (⟨#[10]⟩ : ByteArray).size = 1 := rfl
 have z3 : ((⟨#[32]⟩ : ByteArray) ++ prB x).size = 1 + (prB x).size := by rw [ByteArray.size_append]; rfl
 have hlay := hN x (k + 2) hx hG hw (by omega)
 have hP := fun h => refPrintAll_a x hG h
 have hw2 : IntKind.i64.wrap ((k : Int) + 2) = ((k + 2 : Nat) : Int) := by rw [wrap_in (by omega) (by omega)]; omega
 unfold V.tail
 refine kE Tryz.func123 a_ref05_tail_ok a_ref05_tail_cb fun E hE => ?_
 refine kW ?_
 refine kQ [.v (.bool x.leaf)] ?_
 refine kC (fun hb => ?_) fun hb => ?_
 ·have hP := hP hb
  rw [if_pos hb]
  refine kW ?_
  refine kQ [.v (.str (prB x))] ?_
  refine kW ?_
  refine AK.ret ⟨_, rfl, ?_⟩
  rfl
 ·rw [if_neg (by rw [hb]; simp)]
  refine kW ?_
  refine kP [.v (.str (x.lay wordB prB (k + 2)))] ?_ ?_
  ·((repeat' apply And.intro) <;> first | exact kD | (intro hgd; refine ⟨?_, kG⟩; (repeat' apply And.intro) <;> first | exact kD | skip) | skip)
   all_goals first | (rw [hw2]; exact hlay) | skip
  refine kW ?_
  refine AK.ret ⟨_, rfl, ?_⟩
  rfl
def unpF (nameB : ByteArray → Bool) (eN : Int) : List (ByteArray × V) → List (ByteArray × ByteArray) → List (ByteArray × ByteArray) × Int
 | [], out => (out, 0)
 | (n, v) :: m, out => if nameB n = false then ([], eN) else if v.kind ≠ 3 then ([], 8) else unpF nameB eN m (out ++ [(n, v.s)])
def unpV (nameB : ByteArray → Bool) (eN : Int) (r : V × Int) : List (ByteArray × ByteArray) × Int :=
 if r.2 ≠ 0 then ([], r.2) else if r.1.kind ≠ 5 then ([], 8) else if 32 < r.1.m.length then ([], 6) else unpF nameB eN r.1.m []
def wantS (nameB : ByteArray → Bool) (eN : Int) (st : Int × List (ByteArray × ByteArray)) (p : ByteArray × V) : Int × List (ByteArray × ByteArray) :=
 if st.1 ≠ 0 then st else if nameB p.1 = false then (eN, st.2) else if p.2.kind ≠ 3 then (8, st.2) else (0, st.2 ++ [(p.1, p.2.s)])
theorem want_bad {nameB : ByteArray → Bool} {eN e : Int} (he : e ≠ 0) (out : List (ByteArray × ByteArray)) : ∀ m : List (ByteArray × V), m.foldl (wantS nameB eN) (e, out) = (e, out)
 | [] => rfl
 | p :: m => by
  rw [List.foldl_cons, show wantS nameB eN (e, out) p = (e, out) from if_pos he]
  exact want_bad he out m
theorem want_unp {nameB : ByteArray → Bool} {eN : Int} (hN : eN ≠ 0) : ∀ (m : List (ByteArray × V)) (out : List (ByteArray × ByteArray)),
  unpF nameB eN m out = (if (m.foldl (wantS nameB eN) (0, out)).1 = 0 then ((m.foldl (wantS nameB eN) (0, out)).2, 0) else ([], (m.foldl (wantS nameB eN) (0, out)).1))
 | [], out => by simp [unpF]
 | (n, v) :: m, out => by
  have hs : wantS nameB eN (0, out) (n, v) = (if nameB n = false then (eN, out) else if v.kind ≠ 3 then (8, out) else (0, out ++ [(n, v.s)])) := if_neg (fun h => h rfl)
  rw [List.foldl_cons, unpF, hs]
  by_cases h1 : nameB n = false
  ·rw [if_pos h1, if_pos h1, want_bad hN out m, if_neg hN]
  ·rw [if_neg h1, if_neg h1]
   by_cases h2 : v.kind = 3
   ·have h2' : ¬ v.kind ≠ 3 := fun h => h h2
    rw [if_neg h2', if_neg h2']
    exact want_unp hN m (out ++ [(n, v.s)])
   ·have h2' : v.kind ≠ 3 := h2
    rw [if_pos h2', if_pos h2', want_bad (show (8 : Int) ≠ 0 by decide) out m, if_neg (show ¬ (8 : Int) = 0 by decide)]
def fl (p : ByteArray × V) : ByteArray × ByteArray := (p.1, p.2.s)
theorem unp_all {nameB : ByteArray → Bool} {eN : Int} : ∀ (m : List (ByteArray × V)) (out : List (ByteArray × ByteArray)), (∀ p ∈ m, nameB p.1 = true ∧ p.2.kind = 3) → unpF nameB eN m out = (out ++ m.map fl, 0)
 | [], out, _ => by simp [unpF]
 | (n, v) :: m, out, h => by
  obtain ⟨h1, h2⟩ := h (n, v) (by simp)
  have h1 : nameB n = true := h1
  have h2 : v.kind = 3 := h2
  rw [unpF, if_neg (by simp [h1]), if_neg (by simp [h2]), unp_all m _ fun p hp => h p (by simp [hp])]
  simp [fl]
def insF (p : ByteArray × ByteArray) : List (ByteArray × ByteArray) → List (ByteArray × ByteArray)
 | [] => [p]
 | q :: l => if Op.bytesLess q.1.toList p.1.toList = true then q :: insF p l else p :: q :: l
def sortF (l : List (ByteArray × ByteArray)) : List (ByteArray × ByteArray) := l.foldl (fun out p => insF p out) []
theorem ins_map {n t : ByteArray} : ∀ {m : List (ByteArray × V)}, mfind n m = none → (minsert n (vTxt t) m).map fl = insF (n, t) (m.map fl)
 | [], _ => rfl
 | (k, y) :: m, h => by
  have hne : k ≠ n := fun e => by subst e; rw [mfind, if_pos rfl] at h; cases h
  have hm : mfind n m = none := by rw [mfind, if_neg hne] at h; exact h
  rw [minsert, List.map_cons, insF]
  by_cases hlt : cmpS k n < 0
  ·have h1 : klt k n := cmpS_lt.1 hlt
   rw [if_pos hlt, if_pos (show Op.bytesLess (fl (k, y)).1.toList n.toList = true from h1), List.map_cons, ins_map hm]
  ·have h1 : ¬ klt k n := fun h => hlt (cmpS_lt.2 h)
   rw [if_neg hlt, if_neg (fun e => hne (cmpS_eq.1 e)), if_neg (show ¬ Op.bytesLess (fl (k, y)).1.toList n.toList = true from h1)]
   rfl
theorem packE_ok {nameB : ByteArray → Bool} {eN : Int} (hN : eN ≠ 0) : ∀ (l : List (ByteArray × ByteArray)) (m : List (ByteArray × V)), Rises m → (packE nameB eN l m).2 = 0 →
  Rises (packE nameB eN l m).1 ∧ (packE nameB eN l m).1.map fl = l.foldl (fun out p => insF p out) (m.map fl) ∧ (packE nameB eN l m).1.length = m.length + l.length ∧
  ∀ p ∈ (packE nameB eN l m).1, p ∈ m ∨ ∃ t : ByteArray, p.2 = vTxt t ∧ (p.1, t) ∈ l ∧ nameB p.1 = true ∧ textB t = true
 | [], m, hr, _ => ⟨hr, rfl, rfl, fun p hp => .inl hp⟩
 | (n, t) :: l, m, hr, h => by
  rw [packE] at h ⊢
  split at h
  ·exact absurd h hN
  rename_i h1
  split at h
  ·exact absurd h (by decide)
  rename_i h2
  split at h
  ·exact absurd h (by decide)
  rename_i h3
  have h3' : mfind n m = none := by simpa using h3
  rw [if_neg h1, if_neg h2, if_neg h3]
  obtain ⟨i1, i2, i3, i4⟩ := packE_ok hN l (minsert n (vTxt t) m) (minsert_rises hr) h
  have hlen : (minsert n (vTxt t) m).length = m.length + 1 := by
   have e := congrArg List.length (ins_map (t := t) h3')
   rw [List.length_map] at e
   have key : ∀ (p : ByteArray × ByteArray) (l : List (ByteArray × ByteArray)), (insF p l).length = l.length + 1 := by
    intro p l
    induction l with
    | nil => rfl
    | cons q l ih => rw [insF]; split <;> simp [ih]
   rw [e, key, List.length_map]
  refine ⟨i1, ?_, by rw [i3, hlen, List.length_cons]; omega, fun p hp => ?_⟩
  ·rw [i2, ins_map h3', List.foldl_cons]
  ·rcases i4 p hp with hp | ⟨t', h5, h6, h7⟩
   ·rcases minsert_mem hp with rfl | hp
    ·exact .inr ⟨t, rfl, by simp, by simpa using h1, by simpa using h2⟩
    ·exact .inl hp
   ·exact .inr ⟨t', h5, List.mem_cons_of_mem _ h6, h7⟩
theorem txt_parts {t : ByteArray} (h : textB t = true) : (vTxt t).partsC = 0 := by
 rw [V.partsC_eq]
 have e : kbad (vTxt t).kind (vTxt t).b (vTxt t).n (vTxt t).s (vTxt t).l.length (vTxt t).m.length = false := by simp [kbad, vTxt, V.kind, V.b, V.n, V.s, V.l, V.m]
 rw [e, if_neg (by decide), if_neg (by show ¬ textB t = false; rw [h]; simp)]
 show (if partsL [] ≠ 0 then partsL [] else partsM none []) = 0
 rfl
theorem flat_parts : ∀ (m : List (ByteArray × V)) (z : Option ByteArray), Rises m → (∀ y, z = some y → ∀ p ∈ m, klt y p.1) → (∀ p ∈ m, keyB p.1 = true ∧ p.2.partsC = 0) → partsM z m = 0
 | [], _, _, _, _ => rfl
 | (k, x) :: m, z, hr, hz, h => by
  obtain ⟨h1, h2⟩ := h (k, x) (by simp)
  have h1 : keyB k = true := h1
  have h2 : x.partsC = 0 := h2
  have hc := List.pairwise_cons.1 hr
  have hn : noRise z k = false := by
   cases z with
   | none => rfl
   | some y => have := hz y rfl (k, x) (by simp); simp only [noRise, Bool.not_eq_false']; exact this
  rw [partsM, if_neg (by simp [h1]), if_neg (by simp [hn]), if_neg (by simp [h2])]
  exact flat_parts m (some k) hc.2 (fun y hy p hp => by cases hy; exact hc.1 p hp) fun p hp => h p (by simp [hp])
theorem flat_check {m : List (ByteArray × V)} (hr : Rises m) (hl : m.length ≤ 32) (h : ∀ p ∈ m, keyB p.1 = true ∧ ∃ t, p.2 = vTxt t ∧ textB t = true) : (vMap m).checkC = 0 := by
 have hsz : (vMap m).size ≤ 33 := by
  rw [vMap_size]
  have key : ∀ m : List (ByteArray × V), (∀ p ∈ m, ∃ t, p.2 = vTxt t) → sizeM m = m.length := by
   intro m
   induction m with
   | nil => intro _; rfl
   | cons q m ih =>
    obtain ⟨y, x⟩ := q
    intro h
    obtain ⟨t, ht⟩ := h (y, x) (by simp)
    have ht : x = vTxt t := ht
    rw [sizeM, ih fun p hp => h p (by simp [hp]), ht, List.length_cons]
    have : (vTxt t).size = 1 := by simp [vTxt, V.size, sizeL, sizeM]
    omega
  rw [key m fun p hp => (h p hp).2.imp fun t ht => ht.1]
  omega
 have hd : (vMap m).depth ≤ 16 := by
  have key : ∀ m : List (ByteArray × V), (∀ p ∈ m, ∃ t, p.2 = vTxt t) → depthM m ≤ 1 := by
   intro m
   induction m with
   | nil => intro _; simp [depthM]
   | cons q m ih =>
    obtain ⟨y, x⟩ := q
    intro h
    obtain ⟨t, ht⟩ := h (y, x) (by simp)
    have ht : x = vTxt t := ht
    have h1 := ih fun p hp => h p (by simp [hp])
    have h2 : (vTxt t).depth = 1 := by simp [vTxt, V.depth, depthL, depthM]
    rw [depthM, ht, h2]
    omega
  have h1 := key m fun p hp => (h p hp).2.imp fun t ht => ht.1
  simp only [vMap, V.depth, depthL]
  omega
 unfold V.checkC
 rw [if_neg (by omega), if_neg (by omega), V.partsC_eq]
 have e : kbad (vMap m).kind (vMap m).b (vMap m).n (vMap m).s (vMap m).l.length (vMap m).m.length = false := by simp [kbad, vMap, V.kind, V.b, V.n, V.s, V.l, V.m, noBytes]
 rw [e, if_neg (by decide), if_neg (by show ¬ textB ⟨#[]⟩ = false; decide)]
 show (if partsL [] ≠ 0 then partsL [] else partsM none m) = 0
 rw [show partsL [] = 0 from rfl, if_neg (by simp)]
 exact flat_parts m none hr (fun y hy => by cases hy) fun p hp => ⟨(h p hp).1, by obtain ⟨t, h1, h2⟩ := (h p hp).2; rw [h1]; exact txt_parts h2⟩
def prtC (c : UInt8) : Bs → List Bs
 | [] => [[]]
 | d :: t => if d = c then [] :: prtC c t else match prtC c t with
  | [] => [[d]]
  | x :: l => (d :: x) :: l
theorem prtC_ne (c : UInt8) : ∀ s : Bs, prtC c s ≠ []
 | [] => by simp [prtC]
 | d :: t => by
  rw [prtC]
  split
  ·simp
  ·split <;> simp
theorem prtC_no (c : UInt8) : ∀ (s : Bs), ∀ x ∈ prtC c s, c ∉ x
 | [], x, h => by rw [prtC, List.mem_singleton] at h; subst h; simp
 | d :: t, x, h => by
  have ih := prtC_no c t
  rw [prtC] at h
  split at h
  ·rcases List.mem_cons.1 h with rfl | h
   ·simp
   ·exact ih x h
  ·rename_i hc
   split at h
   ·rw [List.mem_singleton] at h; subst h; simpa using Ne.symm hc
   ·rename_i y l he
    rw [he] at ih
    rcases List.mem_cons.1 h with rfl | h
    ·simp only [List.mem_cons, not_or]
     exact ⟨Ne.symm hc, ih y (by simp)⟩
    ·exact ih x (by simp [h])
theorem joinC_prt (c : UInt8) : ∀ s : Bs, joinC c (prtC c s) = s
 | [] => rfl
 | d :: t => by
  have ih := joinC_prt c t
  rw [prtC]
  split
  ·rename_i hc
   subst hc
   cases h : prtC d t with
   | nil => exact absurd h (prtC_ne d t)
   | cons x l => rw [joinC_cons, ← h, ih]; rfl
  ·split
   ·rename_i h; exact absurd h (prtC_ne c t)
   ·rename_i x l h
    rw [h] at ih
    rw [← ih]
    cases l <;> rfl
theorem splT_prt (c : UInt8) (s : ByteArray) : (splT c s).map (fun x => x.data.toList) = prtC c s.data.toList := splT_join (prtC_ne c _) (prtC_no c _) (joinC_prt c _).symm
def partB (w : ByteArray) : Bool := !(decide (w = ⟨#[]⟩) || decide (w = ⟨#[46]⟩) || decide (w = ⟨#[46, 46]⟩) || !bareB (cutS w ⟨#[95]⟩))
def nameC (s : ByteArray) : Bool := (splT 47 s).all partB && decide (s.size ≤ 256)
def dropU : Bs → Bs
 | [] => []
 | c :: t => if c = 95 then t else c :: t
def tstW (w : Bs) : Bool := bareB (toB (dropU w))
def namR (w : Bs) : Bs → Bool
 | [] => tstW w
 | c :: s => if c = 47 then tstW w && namR [] s else namR (w ++ [c]) s
theorem namR_eq : ∀ (s w : Bs), namR w s = (match prtC 47 s with | [] => true | x :: l => tstW (w ++ x) && l.all tstW)
 | [], w => by simp [namR, prtC]
 | c :: s, w => by
  rw [namR, prtC]
  split
  ·rw [namR_eq s []]
   cases h : prtC 47 s with
   | nil => exact absurd h (prtC_ne 47 s)
   | cons x l => simp
  ·rw [namR_eq s (w ++ [c])]
   cases h : prtC 47 s with
   | nil => exact absurd h (prtC_ne 47 s)
   | cons x l => simp
theorem cut_drop (w : ByteArray) : cutS w ⟨#[95]⟩ = toB (dropU w.data.toList) := by
 refine ba_ext ?_
 unfold cutS hasB
 have hz : w.data.toList.length = w.size := rfl
 cases h : w.data.toList with
 | nil =>
  rw [h] at hz
  rw [if_neg (by simp; intro h2; exact absurd h2 (by rw [← hz]; decide)), h]
  rfl
 | cons c t =>
  rw [h] at hz
  have e : w.extract 0 (ByteArray.mk #[95]).size = ⟨#[c]⟩ := by
   rw [Lib.extract_eq]
   show ByteArray.mk (((w.data.toList.drop 0).take 1).toArray) = _
   rw [h]
   rfl
  have hp : (ByteArray.mk #[95]).size = 1 := rfl
  rw [e]
  by_cases hc : c = 95
  ·subst hc
   rw [if_pos (by simp [hp]; rw [← hz]; simp), dropU, if_pos rfl, Lib.extract_eq]
   show (w.data.toList.drop 1).take (w.size - 1) = t
   rw [h, ← hz]
   simp
  ·rw [if_neg (by simp [hc]), dropU, if_neg hc, h]
   rfl
theorem part_tst (w : ByteArray) : partB w = tstW w.data.toList := by
 unfold partB
 rw [cut_drop]
 by_cases h1 : w = ⟨#[]⟩
 ·subst h1; decide +kernel
 by_cases h2 : w = ⟨#[46]⟩
 ·subst h2; decide +kernel
 by_cases h3 : w = ⟨#[46, 46]⟩
 ·subst h3; decide +kernel
 rw [decide_eq_false h1, decide_eq_false h2, decide_eq_false h3]
 simp [tstW]
theorem name_ref (s : ByteArray) : nameC s = (if 256 < s.size then false else namR [] s.data.toList) := by
 have e : (splT 47 s).all partB = namR [] s.data.toList := by
  rw [namR_eq, ← splT_prt]
  cases h : splT 47 s with
  | nil =>
   have := splT_prt 47 s
   rw [h] at this
   exact absurd this.symm (prtC_ne 47 _)
  | cons x l =>
   simp only [List.map_cons, List.all_cons, List.nil_append, part_tst]
   congr 1
   rw [List.all_map]
   exact congrArg _ (funext fun y => part_tst y)
 unfold nameC
 rw [e]
 split
 ·rw [decide_eq_false (by omega), Bool.and_false]
 ·rw [decide_eq_true (by omega), Bool.and_true]
theorem insF_at {p : ByteArray × ByteArray} : ∀ (l : List (ByteArray × ByteArray)) (k : Nat), (∀ (j : Nat) q, j < k → l[j]? = some q → Op.bytesLess q.1.toList p.1.toList = true) →
  (∀ q, l[k]? = some q → Op.bytesLess q.1.toList p.1.toList = false) → insF p l = l.take k ++ p :: l.drop k
 | [], k, _, _ => by simp [insF]
 | q :: l, 0, _, h => by
  have := h q rfl
  rw [insF, if_neg (by rw [this]; simp)]
  rfl
 | q :: l, k + 1, h1, h2 => by
  have := h1 0 q (by omega) rfl
  rw [insF, if_pos this, insF_at l k (fun j x hj hx => h1 (j + 1) x (by omega) hx) (fun x hx => h2 x hx)]
  rfl
theorem sortF_snoc (l : List (ByteArray × ByteArray)) (p : ByteArray × ByteArray) : sortF (l ++ [p]) = insF p (sortF l) := by rw [sortF, List.foldl_append]; rfl
theorem insF_len (p : ByteArray × ByteArray) : ∀ l, (insF p l).length = l.length + 1
 | [] => rfl
 | q :: l => by rw [insF]; split <;> simp [insF_len p l]
theorem sortF_len (l : List (ByteArray × ByteArray)) : (sortF l).length = l.length := by
 have key : ∀ (l out : List (ByteArray × ByteArray)), (l.foldl (fun out p => insF p out) out).length = out.length + l.length := by
  intro l
  induction l with
  | nil => intro out; rfl
  | cons p l ih => intro out; rw [List.foldl_cons, ih, insF_len, List.length_cons]; omega
 rw [sortF, key]
 simp
theorem name_a (s : ByteArray) (hs : s.size ≤ 1000000) : AC Tryz.prog 37 [.str s] (.bool (nameC s)) := by
 have h := splitT_a 47 s hs
 have hl := splT_le 47 s
 refine kE Tryz.func37 a_chart_Name_ok a_chart_Name_cb fun E hE => ?_
 refine kW ?_
 refine kQ [.v (.lst .any 1 (rowsT (splT 47 s)))] ?_
 refine kW ?_
 refine AK.loopI (fun k : Nat => (frOf [(0, .str s), (6, .lst .any 1 (rowsT (splT 47 s))), (7, .int .i64 (rowsT (splT 47 s)).length), (8, .int .i64 k)], ⟨boxOf [], fun _ => 0⟩)) (fun k => k ≤ (splT 47 s).length ∧ ∀ (j : Nat) w, j < k → (splT 47 s)[j]? = some w → partB w = true) (fun k => (splT 47 s).length - k) 0 ⟨Nat.zero_le _, fun j w h => by omega⟩ (Weak.intro ⟨kI, kI, kI, kI, trivial⟩ trivial rfl rfl) fun k ⟨hk, hno⟩ => ?_
 refine kW ?_
 refine kC (fun hb => ?_) fun hb => ?_
 ·have hlt : k < (splT 47 s).length := by simpa [rowsT_len] using hb
  obtain ⟨x, hg⟩ : ∃ x, (splT 47 s)[k]? = some x := ⟨_, List.getElem?_eq_getElem hlt⟩
  have hx := splT_mem (List.mem_of_getElem? hg)
  have hc := cutS_size x ⟨#[95]⟩
  refine kW ?_
  refine kP [.c [.str x]] ?_ ?_
  ·((repeat' apply And.intro) <;> first | exact kD | (intro hgd; refine ⟨?_, kG⟩; (repeat' apply And.intro) <;> first | exact kD | skip) | skip)
   ·exact rowsT_at hg
  refine kW ?_
  refine kP [.v (.str (cutS x ⟨#[95]⟩)), .v (.bool (bareB (cutS x ⟨#[95]⟩)))] ?_ ?_
  ·((repeat' apply And.intro) <;> first | exact kD | (intro hgd; refine ⟨?_, kG⟩; (repeat' apply And.intro) <;> first | exact kD | skip) | skip)
   all_goals first | exact trim_a _ _ | exact bare_a _ (by omega) | skip
  refine kC (fun hb => ?_) fun hb => ?_
  ·refine kW ?_
   refine AK.ret ⟨_, rfl, ?_⟩
   have hp : partB x = false := by rw [partB, hb]; rfl
   have ha : (splT 47 s).all partB = false := List.all_eq_false.2 ⟨x, List.mem_of_getElem? hg, by rw [hp]; simp⟩
   rw [nameC, ha]
   rfl
  ·have hp : partB x = true := by rw [partB, hb]; rfl
   refine kW ?_
   exact AK.lp ⟨k + 1, ⟨by omega, fun j w h hw => by
    by_cases e : j = k
    ·subst e; rw [hg] at hw; cases hw; exact hp
    ·exact hno j w (by omega) hw⟩, Weak.intro ⟨kI, kI, kI, kU, trivial⟩ trivial rfl rfl, by omega⟩
 ·have hlt : k = (splT 47 s).length := by have : (splT 47 s).length ≤ k := by simpa [rowsT_len] using hb
                                          omega
  subst hlt
  refine AK.exit rfl ?_
  refine kW ?_
  refine AK.ret ⟨_, rfl, ?_⟩
  have ha : (splT 47 s).all partB = true := List.all_eq_true.2 fun x hx => by
   obtain ⟨j, hj⟩ := List.getElem?_of_mem hx
   exact hno j x (List.getElem?_eq_some_iff.1 hj).1 hj
  rw [nameC, ha]
  exact congrArg AV.bool (by rw [Bool.true_and, Bool.eq_iff_iff, decide_eq_true_eq, decide_eq_true_eq]; omega)
theorem joinC_mem {c d : UInt8} : ∀ {l : List Bs}, d ∈ joinC c l → d = c ∨ ∃ x ∈ l, d ∈ x
 | [], h => by cases h
 | [x], h => .inr ⟨x, by simp, by simpa [joinC] using h⟩
 | x :: y :: l, h => by
  rw [joinC_cons] at h
  rcases List.mem_append.1 h with h | h
  ·exact .inr ⟨x, by simp, h⟩
  ·rcases List.mem_cons.1 h with h | h
   ·exact .inl h
   ·rcases joinC_mem h with h | ⟨z, hz, h⟩
    ·exact .inl h
    ·exact .inr ⟨z, by simp [List.mem_cons.1 hz], h⟩
theorem bare_okK {c : UInt8} (h : (letN c.toNat || moreN c.toNat) = true) : okK c = true := by
 have key : ∀ k : Fin 256, ((letN (UInt8.ofNat k.val).toNat || moreN (UInt8.ofNat k.val).toNat) = true → okK (UInt8.ofNat k.val) = true) := by decide +kernel
 have := key ⟨c.toNat, c.toNat_lt⟩
 simp only [UInt8.ofNat_toNat] at this
 exact this h
theorem part_okK {w : ByteArray} (h : partB w = true) : w ≠ ⟨#[]⟩ ∧ ∀ c ∈ w.data.toList, okK c = true := by
 have ht := h
 rw [part_tst, tstW] at ht
 obtain ⟨_, _, _, _, _, hall⟩ := bare_facts ht
 refine ⟨fun e => by subst e; revert h; decide +kernel, fun c hc => ?_⟩
 have hall : ∀ d ∈ dropU w.data.toList, (letN d.toNat || moreN d.toNat) = true := hall
 cases hl : w.data.toList with
 | nil => rw [hl] at hc; cases hc
 | cons d t =>
  rw [hl, dropU] at hall
  rw [hl] at hc
  split at hall
  ·rename_i hd
   rcases List.mem_cons.1 hc with rfl | hc
   ·rw [hd]; decide
   ·exact bare_okK (hall c hc)
  ·exact bare_okK (hall c hc)
theorem name_key {s : ByteArray} (h : nameC s = true) : keyB s = true := by
 simp only [nameC, Bool.and_eq_true, decide_eq_true_eq] at h
 obtain ⟨h1, h2⟩ := h
 have hp := splT_prt 47 s
 have hj := joinC_prt 47 s.data.toList
 have hall := List.all_eq_true.1 h1
 have hne : s.data.toList ≠ [] := fun e => by
  rw [e] at hp
  have : splT 47 s ≠ [] := fun h => by rw [h] at hp; cases hp
  obtain ⟨x, l, hx⟩ := List.exists_cons_of_ne_nil this
  rw [hx] at hp
  have hx2 : x.data.toList = [] := by
   have := congrArg List.head? hp
   simpa [prtC] using this
  refine (part_okK (hall x (by rw [hx]; simp))).1 ?_
  exact ba_ext hx2
 have hc : ∀ c ∈ s.data.toList, okK c = true := fun c hc => by
  rw [← hj, ← hp] at hc
  rcases joinC_mem hc with rfl | ⟨x, hx, hc⟩
  ·decide
  ·obtain ⟨y, hy, rfl⟩ := List.mem_map.1 hx
   exact (part_okK (hall y hy)).2 c hc
 have hpos : 1 ≤ s.size := by
  have : 0 < s.data.toList.length := List.length_pos_iff.2 hne
  exact this
 unfold keyB allB
 rw [List.all_eq_true.2 hc]
 simp only [Bool.true_and, Bool.and_eq_true, decide_eq_true_eq]
 exact ⟨hpos, h2⟩
def lsum : List (ByteArray × ByteArray) → Nat
 | [] => 0
 | p :: l => p.1.size + p.2.size + 1 + lsum l
theorem wM_minsert {n : ByteArray} {x : V} : ∀ m : List (ByteArray × V), wM (minsert n x m) ≤ wM m + x.w + n.size
 | [] => by simp [minsert, wM]
 | (k, y) :: m => by
  have ih := wM_minsert (n := n) (x := x) m
  rw [minsert]
  split
  ·simp only [wM]; omega
  ·split <;> (simp only [wM]; omega)
theorem vTxt_w (t : ByteArray) : (vTxt t).w = 1 + t.size := by simp [vTxt, V.w, wL, wM]
theorem packE_w {nameB : ByteArray → Bool} {eN : Int} : ∀ (l : List (ByteArray × ByteArray)) (m : List (ByteArray × V)), wM (packE nameB eN l m).1 ≤ wM m + lsum l
 | [], m => by simp [packE, lsum]
 | (n, t) :: l, m => by
  rw [packE]
  split
  ·simp [wM]
  ·split
   ·simp [wM]
   ·split
    ·simp [wM]
    ·have h1 := packE_w (nameB := nameB) (eN := eN) l (minsert n (vTxt t) m)
     have h2 := wM_minsert (n := n) (x := vTxt t) m
     rw [vTxt_w] at h2
     simp only [lsum]
     omega
theorem vMap_w (m : List (ByteArray × V)) : (vMap m).w = 1 + wM m := by
 show 1 + (ByteArray.mk #[]).size + wL [] + wM m = _
 rw [show (ByteArray.mk #[]).size = 0 from rfl, wL]
def emitP (m : List (ByteArray × V)) : ByteArray := (vMap m).emit wordB prB
structure FlatOk (m : List (ByteArray × V)) : Prop where
 rises : Rises m
 len : m.length ≤ 32
 all : ∀ p ∈ m, nameC p.1 = true ∧ ∃ t, p.2 = vTxt t ∧ textB t = true
theorem packE_flat {l : List (ByteArray × ByteArray)} (hl : l.length ≤ 32) (h : (packE nameC 22 l []).2 = 0) : FlatOk (packE nameC 22 l []).1 ∧ (packE nameC 22 l []).1.map fl = sortF l := by
 obtain ⟨h1, h2, h3, h4⟩ := packE_ok (nameB := nameC) (eN := 22) (by decide) l [] List.Pairwise.nil h
 refine ⟨⟨h1, by rw [h3]; simpa using hl, fun p hp => ?_⟩, h2⟩
 rcases h4 p hp with hp | ⟨t, h5, _, h6, h7⟩
 ·cases hp
 ·exact ⟨h6, t, h5, h7⟩
theorem FlatOk.check {m : List (ByteArray × V)} (h : FlatOk m) : (vMap m).checkC = 0 := flat_check h.rises h.len fun p hp => ⟨name_key (h.all p hp).1, (h.all p hp).2⟩
theorem FlatOk.nb {m : List (ByteArray × V)} (h : FlatOk m) : Nb (vMap m) := .mk (by decide) (by decide) (fun x hx => by cases hx) fun p hp => by
 obtain ⟨t, ht, _⟩ := (h.all p hp).2
 rw [ht]
 exact .mk (by decide) (by decide) (fun x hx => by cases hx) fun q hq => by cases hq
theorem FlatOk.fit {m : List (ByteArray × V)} (h : FlatOk m) : Fit (vMap m) := fit_all _ _ (Nat.le_refl _) (V.check_good h.check).1 h.nb
theorem FlatOk.gd {m : List (ByteArray × V)} (h : FlatOk m) : Gd (vMap m) := ⟨(V.check_good h.check).1, h.nb⟩
theorem FlatOk.unp {m : List (ByteArray × V)} (h : FlatOk m) : unpV nameC 22 (vMap m, 0) = (m.map fl, 0) := by
 unfold unpV
 rw [if_neg (by simp), if_neg (by simp [vMap, V.kind]), if_neg (by have := h.len; simp [vMap, V.m]; omega)]
 refine (unp_all _ [] fun p hp => ?_).trans (by rw [List.nil_append]; rfl)
 obtain ⟨h1, t, h2, _⟩ := h.all p hp
 exact ⟨h1, by rw [h2]; rfl⟩
theorem packs_back {l : List (ByteArray × ByteArray)} (h : (packP nameC 22 emitP l).2 = 0) :
  l.length ≤ 32 ∧ FlatOk (packE nameC 22 l []).1 ∧ (packP nameC 22 emitP l).1 = emitP (packE nameC 22 l []).1 ∧ parseL (packP nameC 22 emitP l).1 = (vMap (packE nameC 22 l []).1, 0) ∧ unpV nameC 22 (parseL (packP nameC 22 emitP l).1) = (sortF l, 0) := by
 unfold packP at h ⊢
 split at h
 ·cases h
 rename_i h1
 split at h
 ·rename_i h2; exact absurd h h2
 rename_i h2
 split at h
 ·cases h
 rename_i h3
 rw [if_neg h1, if_neg h2, if_neg h3]
 obtain ⟨hf, hs⟩ := packE_flat (by omega) (Decidable.not_not.1 h2)
 have hp : parseL (emitP (packE nameC 22 l []).1) = (vMap (packE nameC 22 l []).1, 0) := parse_emit hf.fit hf.check (by show (emitP _).size ≤ _; omega)
 exact ⟨by omega, hf, rfl, hp, by rw [hp, hf.unp, hs]⟩
def want0 (r : V × Int) : Int := if r.2 = 0 ∧ r.1.kind ≠ 5 then 8 else if r.2 = 0 ∧ 32 < r.1.m.length then 6 else r.2
theorem reads_same {nameB : ByteArray → Bool} {eN : Int} (hN : eN ≠ 0) (r : V × Int) :
  unpV nameB eN r = (if (r.1.m.foldl (wantS nameB eN) (want0 r, [])).1 = 0 then ((r.1.m.foldl (wantS nameB eN) (want0 r, [])).2, 0) else ([], (r.1.m.foldl (wantS nameB eN) (want0 r, [])).1)) := by
 unfold unpV want0
 by_cases h1 : r.2 = 0
 ·rw [if_neg (fun h => h h1)]
  by_cases h2 : r.1.kind = 5
  ·rw [if_neg (fun h => h h2), if_neg (show ¬ (r.2 = 0 ∧ r.1.kind ≠ 5) from fun h => h.2 h2)]
   by_cases h3 : 32 < r.1.m.length
   ·rw [if_pos h3, if_pos (show r.2 = 0 ∧ 32 < r.1.m.length from ⟨h1, h3⟩), want_bad (by decide), if_neg (by decide)]
   ·rw [if_neg h3, if_neg (show ¬ (r.2 = 0 ∧ 32 < r.1.m.length) from fun h => h3 h.2), h1]
    exact want_unp hN _ _
  ·rw [if_pos h2, if_pos (show r.2 = 0 ∧ r.1.kind ≠ 5 from ⟨h1, h2⟩), want_bad (by decide), if_neg (by decide)]
 ·rw [if_pos h1, if_neg (show ¬ (r.2 = 0 ∧ r.1.kind ≠ 5) from fun h => h1 h.1), if_neg (show ¬ (r.2 = 0 ∧ 32 < r.1.m.length) from fun h => h1 h.1), want_bad h1, if_neg h1]
def FlatM (m : List (ByteArray × V)) : Prop := ∀ p ∈ m, (∃ t : ByteArray, p.2 = vTxt t ∧ t.size ≤ 1000000) ∧ p.1.size ≤ 1000000
def FlatV (v : V) : Prop := (∃ t : ByteArray, v = vTxt t ∧ t.size ≤ 1000000) ∨ ∃ m, v = vMap m ∧ FlatM m
theorem printMap_a : AC Tryz.prog 78 [(vA ((vMap [])))] (.str ⟨#[123, 125]⟩) := by
 refine kE Tryz.func78 a_scalar_Print_ok a_scalar_Print_cb fun E hE => ?_
 refine kW ?_
 refine kC (fun hb => ?_) fun hb => ?_
 ·cases hb
 refine kW ?_
 refine kC (fun hb => ?_) fun hb => ?_
 ·cases hb
 refine kW ?_
 refine kC (fun hb => ?_) fun hb => ?_
 ·cases hb
 refine kW ?_
 refine kC (fun hb => ?_) fun hb => ?_
 ·cases hb
 refine kW ?_
 refine kC (fun hb => ?_) fun hb => ?_
 ·refine kW ?_
  refine AK.ret ⟨_, rfl, ?_⟩
  rfl
 ·cases hb
theorem flat_print : ∀ v, FlatV v → v.leaf = true → AC Tryz.prog 78 [(vA (v))] (.str (prB v)) := by
 rintro v (⟨t, rfl, ht⟩ | ⟨m, rfl, hm⟩) hl
 ·exact print_a t ht
 ·cases m with
  | nil => exact printMap_a
  | cons p m => cases hl
theorem flat_sub : ∀ v, FlatV v → (∀ x ∈ v.l, FlatV x) ∧ ∀ p ∈ v.m, FlatV p.2 ∧ p.1.size ≤ 1000000 := by
 rintro v (⟨t, rfl, ht⟩ | ⟨m, rfl, hm⟩)
 ·exact ⟨fun x hx => (by cases hx), fun p hp => (by cases hp)⟩
 ·exact ⟨fun x hx => (by cases hx), fun p hp => ⟨.inl (hm p hp).1, (hm p hp).2⟩⟩
theorem vTxt_size (t : ByteArray) : (vTxt t).size = 1 := by simp [vTxt, V.size, sizeL, sizeM]
theorem flat_size : ∀ {m : List (ByteArray × V)}, FlatM m → sizeM m = m.length
 | [], _ => rfl
 | (y, x) :: m, h => by
  obtain ⟨⟨t, ht, _⟩, _⟩ := h (y, x) (by simp)
  have ht : x = vTxt t := ht
  rw [sizeM, flat_size (fun p hp => h p (by simp [hp])), ht, vTxt_size, List.length_cons]
  omega
theorem flat_lay : ∀ {m : List (ByteArray × V)}, FlatM m → (layM wordB prB m 0).size ≤ m.length * 5000000
 | [], _ => by rw [layM]; exact Nat.zero_le _
 | (y, x) :: m, h => by
  obtain ⟨⟨t, ht, hz⟩, hy⟩ := h (y, x) (by simp)
  have ht : x = vTxt t := ht
  have hy : y.size ≤ 1000000 := hy
  have ih := flat_lay (m := m) (fun p hp => h p (by simp [hp]))
  have h1 := wordB_size y
  have h2 := wordB_size t
  have e1 : x.tail wordB prB 0 = ⟨#[32]⟩ ++ wordB t ++ ⟨#[10]⟩ := by subst ht; rfl
  rw [layM_cons, e1]
  have z1 : (ByteArray.mk #[32]).size = 1 := rfl
  have z2 : (ByteArray.mk #[10]).size = 1 := rfl
  have z3 : (ByteArray.mk #[58]).size = 1 := rfl
  simp only [ByteArray.size_append, padB_size, List.length_cons]
  omega
theorem flat_emit {m : List (ByteArray × V)} (h : FlatM m) (hl : m.length ≤ 100) : ((vMap m).emit wordB prB).size ≤ 1000000000 := by
 have h1 := flat_lay h
 have h2 : (vMap m).lay wordB prB 0 = layM wordB prB m 0 := by rw [V.lay_eq]; exact empty_app _
 rw [V.emit]
 split
 ·rw [ByteArray.size_append]
  show 2 + 1 ≤ _
  omega
 ·rw [h2]; omega
theorem emitM_a {m : List (ByteArray × V)} (h : FlatM m) (hl : m.length ≤ 100) : AC Tryz.prog 41 [(vA ((vMap m)))] (.str (emitP m)) := by
 have h1 := flat_emit h hl
 refine emitTop_a flat_print flat_sub (vMap m) (.inr ⟨m, rfl, h⟩) ?_ (by omega)
 rw [vMap_size, flat_size h]
 omega
theorem flat_insert {m : List (ByteArray × V)} (h : FlatM m) {n t : ByteArray} (hn : n.size ≤ 1000000) (ht : t.size ≤ 1000000) : FlatM (minsert n (vTxt t) m) := fun p hp => by
 rcases minsert_mem hp with e | hp
 ·subst e; exact ⟨⟨t, rfl, ht⟩, hn⟩
 ·exact h p hp
theorem flat_ord {m : List (ByteArray × V)} (h : FlatM m) (hr : Rises m) : (vMap m).ord := vMap_ord hr fun p hp => by
 obtain ⟨⟨t, ht, _⟩, _⟩ := h p hp
 rw [ht]
 refine (V.ord_eq _).2 ⟨fun e => ?_, fun _ => rfl, List.Pairwise.nil, fun q hq => by cases hq⟩
 cases (show (3 : Int) = 5 from e)
theorem mapNil_a : AC Tryz.prog 35 [.lst .any 7 []] ((vA ((vMap [])))) := treeMap_a [] (by decide)
theorem str_av (t : ByteArray) : AC Tryz.prog 40 [.str t] ((vA ((vTxt t)))) := str_a t
theorem pack_a (l : List Fl) (hl : l.length ≤ 4398046511103) (hz : l.length ≤ 32 → ∀ p ∈ l, p.1.size ≤ 1000000 ∧ p.2.size ≤ 1000000) :
  AC Tryz.prog 8 [.lst .any 2 (rowsF l)] (.tup [.str (packP nameC 22 emitP l).1, .int .i64 (packP nameC 22 emitP l).2]) := by
 have h1 := mapNil_a
 refine kE Tryz.func8 a_bundle_Pack_ok a_bundle_Pack_cb fun E hE => ?_
 refine kW ?_
 refine kC (fun hb => ?_) fun hb => ?_
 ·have h32 : 32 < l.length := by simp [rowsF_len] at hb; omega
  refine kW ?_
  refine AK.ret ⟨_, rfl, ?_⟩
  rw [packP, if_pos h32]
  rfl
 have h32 : ¬ 32 < l.length := by simp [rowsF_len] at hb; omega
 have hz := hz (by omega)
 refine kW ?_
 refine kQ [.v ((vA ((vMap []))))] ?_
 refine kW ?_
 refine AK.loopI (fun i : Nat × List (ByteArray × V) => (frOf [(4, .ptr 4 0), (14, .lst .any 2 (rowsF l)), (15, .int .i64 (rowsF l).length), (16, .int .i64 i.1)], ⟨boxOf [(4, [.int .i64 5, .bool false, .int .i64 0, .str ⟨#[]⟩, .lst .any 6 [], .lst .any 7 (rowsM i.2)], false)], fun _ => 0⟩))
  (fun i => i.1 ≤ l.length ∧ packE nameC 22 l [] = packE nameC 22 (l.drop i.1) i.2 ∧ Rises i.2 ∧ FlatM i.2 ∧ i.2.length ≤ i.1) (fun i => l.length - i.1) (0, []) ⟨Nat.zero_le _, rfl, List.Pairwise.nil, fun p hp => (by cases hp), Nat.le_refl _⟩ (Weak.intro ⟨kI, kI, kI, kI, trivial⟩ ⟨kJ, trivial⟩ rfl rfl) fun ⟨k, m⟩ ⟨hk, hP, hr, hf, hml⟩ => ?_
 dsimp only at hk hP hr hf hml
 have ho := flat_ord hf hr
 have hsm := flat_size hf
 refine kW ?_
 refine kC (fun hb => ?_) fun hb => ?_
 ·have hlt : k < l.length := by simpa [rowsF_len] using hb
  obtain ⟨p, hg⟩ : ∃ x, l[k]? = some x := ⟨_, List.getElem?_eq_getElem hlt⟩
  have hpz := hz p (List.mem_of_getElem? hg)
  have hd := drop_atT hg
  rw [← hd] at hP
  have hm2 := (minsert_bound (key := p.1) (x := vTxt p.2) m).2
  refine kW ?_
  refine kP [.c [.str p.1, .str p.2]] ?_ ?_
  ·((repeat' apply And.intro) <;> first | exact kD | (intro hgd; refine ⟨?_, kG⟩; (repeat' apply And.intro) <;> first | exact kD | skip) | skip)
   ·exact rowsF_at hg
  refine kW ?_
  refine kP [.v (.tup [(vA (((mfind p.1 m).getD V.null))), .bool (mfind p.1 m).isSome])] ?_ ?_
  ·((repeat' apply And.intro) <;> first | exact kD | (intro hgd; refine ⟨?_, kG⟩; (repeat' apply And.intro) <;> first | exact kD | skip) | skip)
   ·exact treeGet_o (vMap m) p.1 ho (by rw [vMap_size]; omega)
  refine kW ?_
  refine kP [.v (.bool (nameC p.1))] ?_ ?_
  ·((repeat' apply And.intro) <;> first | exact kD | (intro hgd; refine ⟨?_, kG⟩; (repeat' apply And.intro) <;> first | exact kD | skip) | skip)
   ·exact name_a p.1 hpz.1
  refine kC (fun hb => ?_) fun hb => ?_
  ·have hn : nameC p.1 = false := by simpa using hb
   refine kW ?_
   refine AK.ret ⟨_, rfl, ?_⟩
   rw [packP, if_neg h32, hP, packE, if_pos hn]
   rfl
  have hn : nameC p.1 = true := by simpa using hb
  have hn' : ¬ nameC p.1 = false := by rw [hn]; simp
  refine kW ?_
  refine kP [.v (.bool (textB p.2))] ?_ ?_
  ·((repeat' apply And.intro) <;> first | exact kD | (intro hgd; refine ⟨?_, kG⟩; (repeat' apply And.intro) <;> first | exact kD | skip) | skip)
   ·exact treeText_a p.2 (by omega)
  refine kC (fun hb => ?_) fun hb => ?_
  ·have ht : textB p.2 = false := by simpa using hb
   refine kW ?_
   refine AK.ret ⟨_, rfl, ?_⟩
   rw [packP, if_neg h32, hP, packE, if_neg hn', if_pos ht]
   rfl
  have ht : textB p.2 = true := by simpa using hb
  have ht' : ¬ textB p.2 = false := by rw [ht]; simp
  refine kW ?_
  refine kC (fun hb => ?_) fun hb => ?_
  ·refine kW ?_
   refine AK.ret ⟨_, rfl, ?_⟩
   rw [packP, if_neg h32, hP, packE, if_neg hn', if_neg ht', if_pos hb]
   rfl
  have hh' : ¬ (mfind p.1 m).isSome = true := by rw [hb]; simp
  refine kW ?_
  refine kP [.v ((vA ((vTxt p.2)))), .v ((vA ((vMap (minsert p.1 (vTxt p.2) m)))))] ?_ ?_
  ·((repeat' apply And.intro) <;> first | exact kD | (intro hgd; refine ⟨?_, kG⟩; (repeat' apply And.intro) <;> first | exact kD | skip) | skip)
   ·exact str_av p.2
   ·exact treePut_o (vMap m) p.1 (vTxt p.2) ho (by rw [vMap_size, vTxt_size]; omega)
  refine kW ?_
  rw [packE, if_neg hn', if_neg ht', if_neg hh'] at hP
  exact AK.lp ⟨(k + 1, minsert p.1 (vTxt p.2) m), ⟨by dsimp only; omega, hP, minsert_rises hr, flat_insert hf hpz.1 hpz.2, by dsimp only; omega⟩, Weak.intro ⟨kI, kI, kI, kU, trivial⟩ ⟨kJ, trivial⟩ rfl rfl, by dsimp only; omega⟩
 ·have hlt : k = l.length := by have : l.length ≤ k := by simpa [rowsF_len] using hb
                                omega
  subst hlt
  rw [List.drop_length, packE] at hP
  refine AK.exit rfl ?_
  refine kW ?_
  refine kP [.v (.str (emitP m))] ?_ ?_
  ·((repeat' apply And.intro) <;> first | exact kD | (intro hgd; refine ⟨?_, kG⟩; (repeat' apply And.intro) <;> first | exact kD | skip) | skip)
   ·exact emitM_a hf (by omega)
  refine kW ?_
  refine kC (fun hb => ?_) fun hb => ?_
  ·have hz2 : 65536 < (emitP m).size := by simp at hb; omega
   refine kW ?_
   refine AK.ret ⟨_, rfl, ?_⟩
   rw [packP, if_neg h32, hP, if_neg (by simp), if_pos hz2]
   rfl
  ·have hz2 : ¬ 65536 < (emitP m).size := by simp at hb; omega
   refine kW ?_
   refine AK.ret ⟨_, rfl, ?_⟩
   rw [packP, if_neg h32, hP, if_neg (by simp), if_neg hz2]
   rfl
theorem awake22_a : AC Tryz.prog 7 [] (.bool true) := by
 have h1 := pack_a [] (by decide) (fun _ p hp => by cases hp)
 rw [show packP nameC 22 emitP [] = (⟨#[123, 125, 10]⟩, 0) by decide +kernel] at h1
 have h2 := sum_a ⟨#[]⟩ (by decide)
 refine kE Tryz.func7 a_law22_awake_ok a_law22_awake_cb fun E hE => ?_
 refine kW ?_
 refine kQ [.v (.tup [.str ⟨#[123, 125, 10]⟩, .int .i64 0])] ?_
 refine kW ?_
 refine kQ [.v (.int .u64 14695981039346656037)] ?_
 refine kW ?_
 refine AK.ret ⟨_, rfl, ?_⟩
 exact congrArg AV.bool (by decide +kernel)
theorem null_checkC : V.null.checkC = 0 := by decide +kernel
theorem parse_or (s : ByteArray) : ((parseL s).2 = 0 ∧ (parseL s).1.checkC = 0) ∨ ((parseL s).2 ≠ 0 ∧ (parseL s).1 = V.null) := by
 unfold parseL parseT
 split
 ·exact .inr ⟨by decide, rfl⟩
 split
 ·exact .inr ⟨by decide, rfl⟩
 split
 ·exact .inl ⟨rfl, null_checkC⟩
 dsimp only
 split
 ·rename_i h; exact .inr ⟨h, rfl⟩
 split
 ·exact .inr ⟨by decide, rfl⟩
 split
 ·rename_i h; exact .inr ⟨h, rfl⟩
 ·rename_i h; exact .inl ⟨rfl, by simpa using h⟩
theorem parse_good (s : ByteArray) : (parseL s).1.good ∧ (parseL s).1.size ≤ 4096 := by
 rcases parse_or s with ⟨_, h⟩ | ⟨_, h⟩
 ·exact ⟨(V.check_good h).1, (V.check_good h).2.1⟩
 ·rw [h]; exact ⟨(V.check_good null_checkC).1, (V.check_good null_checkC).2.1⟩
theorem good_key {v : V} (h : v.good) {p : ByteArray × V} (hp : p ∈ v.m) : p.1.size ≤ 256 ∧ p.2.good := by
 have h1 := (goodM_iff v.m).1 ((V.good_eq v).1 h).2.2.2.1 p hp
 have := h1.1
 simp only [keyB, Bool.and_eq_true, decide_eq_true_eq] at this
 exact ⟨this.2.2, h1.2⟩
theorem unpack_a (s : ByteArray) : AC Tryz.prog 10 [.str s] (.tup [.lst .any 2 (rowsF (unpV nameC 22 (parseL s)).1), .int .i64 (unpV nameC 22 (parseL s)).2]) := by
 have hp := parse_a s
 obtain ⟨hg, hz⟩ := parse_good s
 generalize parseL s = R at *
 obtain ⟨v, e⟩ := R
 dsimp only at hg hz hp
 have hlm := len_le_sizeM v.m
 have hve := v.size_eq
 unfold unpV
 dsimp only
 refine kE Tryz.func10 a_bundle_Unpack_ok a_bundle_Unpack_cb fun E hE => ?_
 refine kW ?_
 refine kQ [.v (.tup [(vA (v)), .int .i64 e])] ?_
 refine kW ?_
 refine kC (fun hb => ?_) fun hb => ?_
 ·have h : e ≠ 0 := by simpa using hb
  rw [if_pos h]
  refine kW ?_
  refine AK.ret ⟨_, rfl, ?_⟩
  rfl
 have h : ¬ e ≠ 0 := by simpa using hb
 rw [if_neg h]
 refine kW ?_
 refine kC (fun hb => ?_) fun hb => ?_
 ·have h : v.kind ≠ 5 := by simpa using hb
  rw [if_pos h]
  refine kW ?_
  refine AK.ret ⟨_, rfl, ?_⟩
  rfl
 have h : ¬ v.kind ≠ 5 := by simpa using hb
 rw [if_neg h]
 refine kW ?_
 refine kC (fun hb => ?_) fun hb => ?_
 ·have h : 32 < v.m.length := by simp [rowsM_len] at hb; omega
  rw [if_pos h]
  refine kW ?_
  refine AK.ret ⟨_, rfl, ?_⟩
  rfl
 have h : ¬ 32 < v.m.length := by simp [rowsM_len] at hb; omega
 rw [if_neg h]
 refine kW ?_
 refine AK.loopI (fun i : Nat × List Fl × (Nat → Nat) => (frOf [(6, .lst (.own 52 (i.2.2 52)) 2 (rowsF i.2.1)), (28, .lst .any 7 (rowsM v.m)), (29, .int .i64 (rowsM v.m).length), (30, .int .i64 i.1)], ⟨boxOf [(4, (vC (v)), false)], i.2.2⟩))
  (fun i => i.1 ≤ v.m.length ∧ unpF nameC 22 v.m [] = unpF nameC 22 (v.m.drop i.1) i.2.1 ∧ i.2.1.length ≤ i.1) (fun i => v.m.length - i.1) (0, [], fun _ => 0) ⟨Nat.zero_le _, rfl, Nat.le_refl _⟩ (Weak.intro ⟨⟨_, rfl, .one (.own _ _ _ _)⟩, kI, kI, kI, trivial⟩ ⟨kJ, trivial⟩ rfl rfl) fun ⟨k, out, r⟩ ⟨hk, hU, hol⟩ => ?_
 dsimp only at hk hU hol
 refine kW ?_
 refine kC (fun hb => ?_) fun hb => ?_
 ·have hlt : k < v.m.length := by simpa [rowsM_len] using hb
  obtain ⟨⟨y, x⟩, hx⟩ : ∃ x, v.m[k]? = some x := ⟨_, List.getElem?_eq_getElem hlt⟩
  have hy : y.size ≤ 256 := (good_key hg (List.mem_of_getElem? hx)).1
  have hd := drop_atT hx
  rw [← hd, unpF] at hU
  have hn := name_a y (by omega)
  refine kW ?_
  refine kP [.c (.str y :: (vC (x)))] ?_ ?_
  ·((repeat' apply And.intro) <;> first | exact kD | (intro hgd; refine ⟨?_, kG⟩; (repeat' apply And.intro) <;> first | exact kD | skip) | skip)
   ·exact rowsM_at hx
  refine kW ?_
  refine kQ [.v (.bool (nameC y))] ?_
  refine kC (fun hb => ?_) fun hb => ?_
  ·have h1 : nameC y = false := by simpa using hb
   rw [if_pos h1] at hU
   refine kW ?_
   refine AK.ret ⟨_, rfl, ?_⟩
   rw [hU]
   rfl
  have h1 : ¬ nameC y = false := by simpa using hb
  rw [if_neg h1] at hU
  refine kW ?_
  refine kC (fun hb => ?_) fun hb => ?_
  ·have h2 : x.kind ≠ 3 := by simpa using hb
   rw [if_pos h2] at hU
   refine kW ?_
   refine AK.ret ⟨_, rfl, ?_⟩
   rw [hU]
   rfl
  have h2 : ¬ x.kind ≠ 3 := by simpa using hb
  rw [if_neg h2] at hU
  refine kW ?_
  refine kP [] ?_ ?_
  ·((repeat' apply And.intro) <;> first | exact kD | (intro hgd; refine ⟨?_, kG⟩; (repeat' apply And.intro) <;> first | exact kD | skip) | skip)
   all_goals simp only [rowsF_len, List.length_cons, List.length_nil]
   all_goals omega
  refine kW ?_
  refine AK.lp ⟨(k + 1, out ++ [(y, x.s)], _), ⟨by dsimp only; omega, hU, by dsimp only; rw [List.length_append]; simp; omega⟩, Weak.intro ⟨⟨_, rfl, .of_eq ?_⟩, kI, kI, kU, trivial⟩ ⟨kJ, trivial⟩ rfl rfl, by dsimp only; omega⟩
  dsimp only
  rw [rowsF_snoc]
  simp [appTag, appRow, upd_same]
  exact ⟨rfl, rfl⟩
 ·have hlt : k = v.m.length := by have : v.m.length ≤ k := by simpa [rowsM_len] using hb
                                  omega
  subst hlt
  rw [List.drop_length, unpF] at hU
  refine AK.exit rfl ?_
  refine kW ?_
  refine AK.ret ⟨_, rfl, ?_⟩
  rw [hU]
  rfl
end Go.Proofs.YtbfiopoefbbknaaGreatDoor
namespace Go.Proofs.YtbfiopoefbbknaaGreatDoor
set_option maxRecDepth 100000
def b_ref01_Get : ACode :=
 .seq (gQ [gP 2 0, ⟨gO, .alloc 4 gZ⟩, ⟨gO, .mov 5 (.k (.bool false))⟩]) (.seq (.seq (gQ [gJ 6 0]) (.block 0 (.loop (.seq (.seq (gQ [gM 7 6, gF 8 5 2, gL 9 8, gH 10 false 9, gV 11 .lss 7 10]) (.cond (.s 11) .skip (.exit 0))) (.seq (.block 1 (.seq (gQ [gF 14 5 2, gL 15 14, gM 16 6, gE 17 7 15 16, gF 18 0 17, gL 19 18, gM 20 1, gV 21 .eql 19 20]) (.cond (.s 21) (.seq (gQ [gF 22 5 2, gL 23 22, gM 24 6, gE 25 7 23 24, gF 26 1 25, gA 27 6 26, gT 6 4 27, ⟨gO, .mov 5 (.k (.bool true))⟩]) .ret) .skip))) (.reg [gM 12 6, gU 13 .add 12 1, gM 6 13])))))) (.seq (gQ [⟨gO, .build 28 gZ []⟩, gT 6 4 28, ⟨gO, .mov 5 (.k (.bool false))⟩]) .ret))
def a_ref01_Get : AFn := ⟨2, 29, b_ref01_Get, [.cell 4 6 true, .tmp 5]⟩
theorem a_ref01_Get_ok : fnAF Tryz.prog [] Tryz.f43 = some a_ref01_Get := by kernel_rfl
theorem a_ref01_Get_cb : callable Tryz.prog 43 = true := by kernel_rfl
def b_ref01_Put : ACode :=
 .seq (gQ [gP 3 0, gP 5 2, ⟨gO, .alloc 6 gZ⟩]) (.seq (gQ [⟨gO, .build 10 gZ [(0, 1, gI 5)]⟩, ⟨gO, .alloc 7 gZ⟩, gT 6 7 10]) (.seq (gQ [⟨gO, .mov 8 (.k (.bool false))⟩]) (.seq (.seq (gQ [gJ 9 0]) (.block 0 (.loop (.seq (.seq (gQ [gM 11 9, gF 12 5 3, gL 13 12, gH 14 false 13, gV 15 .lss 11 14]) (.cond (.s 15) .skip (.exit 0))) (.seq (.block 1 (.seq (.seq (gQ [gF 18 5 3, gL 19 18, gM 20 9, gE 21 7 19 20, gF 22 0 21, gL 23 22, gM 24 1, gV 25 .geq 23 24, gM 26 25, gN 26 true 27 8, ⟨some (26, true), .un 28 .not (.s 27)⟩, ⟨gO, .pick 29 (.s 26) (.s 28) (.k (.bool false))⟩]) (.cond (.s 29) (.seq (gQ [gF 30 5 7, gL 31 30, gM 32 1, gA 33 6 5, ⟨gO, .build 34 [.str ⟨#[]⟩, .int .i64 0, .bool false, .int .i64 0, .str ⟨#[]⟩, .lst .nil 6 [], .lst .nil 7 []] [(0, 1, .s 32), (1, 6, .s 33)]⟩, ⟨gO, .bsl 35 1 7 [.str ⟨#[]⟩, .int .i64 0, .bool false, .int .i64 0, .str ⟨#[]⟩, .lst .nil 6 [], .lst .nil 7 []] [(0, 7, .s 34)]⟩, ⟨gO, .app 36 7 104 (.s 31) (.s 35)⟩, gF 37 5 7, gT 1 37 36]) (.reg [⟨gO, .mov 8 (.k (.bool true))⟩])) .skip)) (.seq (gQ [gF 38 5 3, gL 39 38, gM 40 9, gE 41 7 39 40, gF 42 0 41, gL 43 42, gM 44 1, gV 45 .neq 43 44]) (.cond (.s 45) (.reg [gF 46 5 7, gL 47 46, gF 48 5 3, gL 49 48, gM 50 9, gE 51 7 49 50, gA 52 7 51, ⟨gO, .bsl 53 1 7 [.str ⟨#[]⟩, .int .i64 0, .bool false, .int .i64 0, .str ⟨#[]⟩, .lst .nil 6 [], .lst .nil 7 []] [(0, 7, .s 52)]⟩, ⟨gO, .app 54 7 104 (.s 47) (.s 53)⟩, gF 55 5 7, gT 1 55 54]) .skip)))) (.reg [gM 16 9, gU 17 .add 16 1, gM 9 17])))))) (.seq (.seq (gQ [gM 56 8, ⟨gO, .un 57 .not (.s 56)⟩]) (.cond (.s 57) (.reg [gF 58 5 7, gL 59 58, gM 60 1, gA 61 6 5, ⟨gO, .build 62 [.str ⟨#[]⟩, .int .i64 0, .bool false, .int .i64 0, .str ⟨#[]⟩, .lst .nil 6 [], .lst .nil 7 []] [(0, 1, .s 60), (1, 6, .s 61)]⟩, ⟨gO, .bsl 63 1 7 [.str ⟨#[]⟩, .int .i64 0, .bool false, .int .i64 0, .str ⟨#[]⟩, .lst .nil 6 [], .lst .nil 7 []] [(0, 7, .s 62)]⟩, ⟨gO, .app 64 7 104 (.s 59) (.s 63)⟩, gF 65 5 7, gT 1 65 64]) .skip)) (.seq (gQ [gA 66 6 7, gT 6 6 66]) .ret)))))
def a_ref01_Put : AFn := ⟨3, 67, b_ref01_Put, [.cell 6 6 true]⟩
theorem a_ref01_Put_ok : fnAF Tryz.prog [] Tryz.f44 = some a_ref01_Put := by kernel_rfl
theorem a_ref01_Put_cb : callable Tryz.prog 44 = true := by kernel_rfl
end Go.Proofs.YtbfiopoefbbknaaGreatDoor
namespace Go.Proofs.YtbfiopoefbbknaaGreatDoor
open Go.RowKit
def rputS (key : ByteArray) (x : V) (s : List (ByteArray × V) × Bool) (p : ByteArray × V) : List (ByteArray × V) × Bool :=
 let t := if (!Op.bytesLess p.1.toList key.toList && !s.2) = true then (s.1 ++ [(key, x)], true) else s
 if p.1 ≠ key then (t.1 ++ [p], t.2) else t
def rputF (key : ByteArray) (x : V) (m : List (ByteArray × V)) : List (ByteArray × V) × Bool := m.foldl (rputS key x) ([], false)
def rput (key : ByteArray) (x : V) (m : List (ByteArray × V)) : List (ByteArray × V) := if (rputF key x m).2 then (rputF key x m).1 else (rputF key x m).1 ++ [(key, x)]
theorem rputF_take {key : ByteArray} {x : V} {m : List (ByteArray × V)} {k : Nat} {p : ByteArray × V} (h : m[k]? = some p) : rputF key x (m.take (k + 1)) = rputS key x (rputF key x (m.take k)) p := by
 rw [rputF, take_snoc h, List.foldl_append]
 rfl
theorem rputS_len (key : ByteArray) (x : V) (s : List (ByteArray × V) × Bool) (p : ByteArray × V) : (rputS key x s p).1.length ≤ s.1.length + 2 := by
 unfold rputS
 split <;> split <;> simp
theorem rputF_len (key : ByteArray) (x : V) (m : List (ByteArray × V)) : (rputF key x m).1.length ≤ 2 * m.length := by
 have : ∀ (m : List (ByteArray × V)) s, (m.foldl (rputS key x) s).1.length ≤ s.1.length + 2 * m.length := by
  intro m
  induction m with
  | nil => intro s; simp
  | cons p m ih => intro s; have := ih (rputS key x s p); have := rputS_len key x s p; simp only [List.foldl_cons, List.length_cons]; omega
 have h := this m ([], false)
 simp only [List.length_nil, Nat.zero_add] at h
 exact h
theorem rput_eq {key : ByteArray} {x : V} {m : List (ByteArray × V)} (h : Rises m) : rput key x m = minsert key x m := by
 have A : ∀ (m out : List (ByteArray × V)), (∀ p ∈ m, klt key p.1) → m.foldl (rputS key x) (out, true) = (out ++ m, true) := by
  intro m
  induction m with
  | nil => intro out _; simp
  | cons p m ih =>
   intro out hp
   have h1 : rputS key x (out, true) p = (out ++ [p], true) := by
    have hne : ¬ p.1 = key := fun e => klt_ne (hp p (by simp)) e.symm
    simp [rputS, hne]
   rw [List.foldl_cons, h1, ih _ fun q hq => hp q (by simp [hq])]
   simp
 have B : ∀ (m out : List (ByteArray × V)), Rises m → (if (m.foldl (rputS key x) (out, false)).2 then (m.foldl (rputS key x) (out, false)).1 else (m.foldl (rputS key x) (out, false)).1 ++ [(key, x)]) = out ++ minsert key x m := by
  intro m
  induction m with
  | nil => intro out _; simp [minsert]
  | cons p m ih =>
   intro out hm
   obtain ⟨k, y⟩ := p
   have hc := List.pairwise_cons.1 hm
   rw [List.foldl_cons, minsert]
   by_cases hlt : cmpS k key < 0
   ·have hk := cmpS_lt.1 hlt
    have h1 : rputS key x (out, false) (k, y) = (out ++ [(k, y)], false) := by
     have hk' : Op.bytesLess k.toList key.toList = true := hk
     simp [rputS, hk', klt_ne hk]
    rw [h1, ih _ hc.2, if_pos hlt]
    simp
   ·have hnk : Op.bytesLess k.toList key.toList = false := by
     cases hb : Op.bytesLess k.toList key.toList with
     | false => rfl
     | true => exact absurd (cmpS_lt.2 hb) hlt
    rw [if_neg hlt]
    by_cases he : cmpS k key = 0
    ·have := cmpS_eq.1 he
     subst this
     have h1 : rputS k x (out, false) (k, y) = (out ++ [(k, x)], true) := by simp [rputS, hnk]
     rw [h1, A _ _ (fun q hq => hc.1 q hq), if_pos he]
     simp
    ·have hk := klt_tri hlt he
     have h1 : rputS key x (out, false) (k, y) = (out ++ [(key, x)] ++ [(k, y)], true) := by
      have hne : ¬ k = key := fun e => klt_ne hk e.symm
      simp [rputS, hnk, hne]
     rw [h1, A _ _ (fun q hq => klt_trans hk (hc.1 q hq)), if_neg he]
     simp
 have h0 := B m [] h
 rw [List.nil_append] at h0
 exact h0
theorem lst_le {st : St} {t : Tag} {esz : Nat} {l l' : List (List AV)} (h : l = l') : AVle1 st (.lst t esz l) (.lst t esz l') := h ▸ .refl _
theorem refPut_a (v x : V) (key : ByteArray) (hsz : v.size ≤ 1000000) : AC Tryz.prog 44 [(vA (v)), .str key, (vA (x))] (.agg [.int .i64 5, .bool false, .int .i64 0, .str ⟨#[]⟩, .lst .any 6 [], .lst .any 7 (rowsM (rput key x v.m))]) := by
 have hve := v.size_eq
 have hlm := len_le_sizeM v.m
 refine kE Tryz.func44 a_ref01_Put_ok a_ref01_Put_cb fun E hE => ?_
 refine kW ?_
 refine AK.loopI (fun i : Nat × (Nat → Nat) => (frOf [(1, .str key), (3, .ptr 3 0), (5, .ptr 5 0), (6, .ptr 6 0), (7, .ptr 7 0), (8, .bool (rputF key x (v.m.take i.1)).2), (9, .int .i64 i.1)], ⟨boxOf [(3, (vC (v)), false), (5, (vC (x)), false), (6, zeroAVs, false), (7, [.int .i64 5, .bool false, .int .i64 0, .str ⟨#[]⟩, .lst .nil 6 [], .lst (.own 36 (i.2 36)) 7 (rowsM (rputF key x (v.m.take i.1)).1)], false)], i.2⟩))
  (fun i => i.1 ≤ v.m.length) (fun i => v.m.length - i.1) (0, fun _ => 0) (by simp) (Weak.intro ⟨kI, kI, kI, kI, kI, kI, kI, trivial⟩ ⟨kJ, kJ, kJ, ⟨_, rfl, ⟨.refl _, .refl _, .refl _, .refl _, .refl _, .own _ _ _ _, trivial⟩⟩, trivial⟩ rfl rfl) fun ⟨k, r⟩ hk => ?_
 dsimp only at hk
 have hpl := rputF_len key x (v.m.take k)
 rw [List.length_take] at hpl
 refine kW ?_
 refine kC (fun hb => ?_) fun hb => ?_
 ·have hlt : k < v.m.length := by simpa [rowsM_len] using hb
  obtain ⟨⟨y, z⟩, hg⟩ : ∃ x, v.m[k]? = some x := ⟨_, List.getElem?_eq_getElem hlt⟩
  have hst := rputF_take (key := key) (x := x) hg
  refine kW ?_
  refine kP [.c (.str y :: (vC (z)))] ?_ ?_
  ·((repeat' apply And.intro) <;> first | exact kD | (intro hgd; refine ⟨?_, kG⟩; (repeat' apply And.intro) <;> first | exact kD | skip) | skip)
   ·exact rowsM_at hg
  refine kC (fun hb => ?_) fun hb => ?_
  ·have h1 : (!Op.bytesLess y.toList key.toList && !(rputF key x (v.m.take k)).2) = true := hb
   refine kW ?_
   refine kP [] ?_ ?_
   ·((repeat' apply And.intro) <;> first | exact kD | (intro hgd; refine ⟨?_, kG⟩; (repeat' apply And.intro) <;> first | exact kD | skip) | skip)
    all_goals simp only [rowsM_len, List.length_nil, List.length_cons]
    all_goals omega
   refine kW ?_
   refine kP [.c (.str y :: (vC (z)))] ?_ ?_
   ·((repeat' apply And.intro) <;> first | exact kD | (intro hgd; refine ⟨?_, kG⟩; (repeat' apply And.intro) <;> first | exact kD | skip) | skip)
    ·exact rowsM_at hg
   refine kC (fun hb => ?_) fun hb => ?_
   ·have h2 : ¬ y = key := by simpa using hb
    refine kW ?_
    refine kP [.c (.str y :: (vC (z)))] ?_ ?_
    ·((repeat' apply And.intro) <;> first | exact kD | (intro hgd; refine ⟨?_, kG⟩; (repeat' apply And.intro) <;> first | exact kD | skip) | skip)
     ·exact rowsM_at hg
     all_goals simp only [rowsM_len, List.length_append, List.length_nil, List.length_cons]
     all_goals omega
    refine kW ?_
    refine AK.lp ⟨(k + 1, _), by dsimp only; omega, Weak.intro ⟨kI, kI, kI, kI, kI, ⟨_, rfl, .of_eq (congrArg AV.bool ?_)⟩, kU, trivial⟩ ⟨kJ, kJ, kJ, ⟨_, rfl, ⟨.refl _, .refl _, .refl _, .refl _, .refl _, lst_le ?_, trivial⟩⟩, trivial⟩ rfl rfl, by dsimp only; omega⟩
    ·rw [hst]; simp [rputS, h1, h2]
    ·rw [hst]; simp only [rputS, h1, h2, if_true, ne_eq, not_false_eq_true, rowsM_append, rowsM, cellsV_eq]; rfl
   ·have h2 : y = key := by simpa using hb
    subst h2
    refine kW ?_
    refine AK.lp ⟨(k + 1, _), by dsimp only; omega, Weak.intro ⟨kI, kI, kI, kI, kI, ⟨_, rfl, .of_eq (congrArg AV.bool ?_)⟩, kU, trivial⟩ ⟨kJ, kJ, kJ, ⟨_, rfl, ⟨.refl _, .refl _, .refl _, .refl _, .refl _, lst_le ?_, trivial⟩⟩, trivial⟩ rfl rfl, by dsimp only; omega⟩
    ·rw [hst]; simp only [rputS, h1, if_true, ne_eq, not_true_eq_false, if_false]
    ·rw [hst]; simp only [rputS, h1, if_true, ne_eq, not_true_eq_false, if_false, rowsM_append, rowsM, cellsV_eq]; rfl
  ·have h1 : (!Op.bytesLess y.toList key.toList && !(rputF key x (v.m.take k)).2) = false := hb
   refine kW ?_
   refine kP [.c (.str y :: (vC (z)))] ?_ ?_
   ·((repeat' apply And.intro) <;> first | exact kD | (intro hgd; refine ⟨?_, kG⟩; (repeat' apply And.intro) <;> first | exact kD | skip) | skip)
    ·exact rowsM_at hg
   refine kC (fun hb => ?_) fun hb => ?_
   ·have h2 : ¬ y = key := by simpa using hb
    refine kW ?_
    refine kP [.c (.str y :: (vC (z)))] ?_ ?_
    ·((repeat' apply And.intro) <;> first | exact kD | (intro hgd; refine ⟨?_, kG⟩; (repeat' apply And.intro) <;> first | exact kD | skip) | skip)
     ·exact rowsM_at hg
     all_goals simp only [rowsM_len, List.length_append, List.length_nil, List.length_cons]
     all_goals omega
    refine kW ?_
    refine AK.lp ⟨(k + 1, _), by dsimp only; omega, Weak.intro ⟨kI, kI, kI, kI, kI, ⟨_, rfl, .of_eq (congrArg AV.bool ?_)⟩, kU, trivial⟩ ⟨kJ, kJ, kJ, ⟨_, rfl, ⟨.refl _, .refl _, .refl _, .refl _, .refl _, lst_le ?_, trivial⟩⟩, trivial⟩ rfl rfl, by dsimp only; omega⟩
    ·rw [hst]; simp [rputS, h1, h2]
    ·rw [hst]; simp only [rputS, h1, h2, Bool.false_eq_true, if_false, ne_eq, not_false_eq_true, if_true, rowsM_append, rowsM, cellsV_eq]; rfl
   ·have h2 : y = key := by simpa using hb
    subst h2
    refine kW ?_
    refine AK.lp ⟨(k + 1, _), by dsimp only; omega, Weak.intro ⟨kI, kI, kI, kI, kI, ⟨_, rfl, .of_eq (congrArg AV.bool ?_)⟩, kU, trivial⟩ ⟨kJ, kJ, kJ, ⟨_, rfl, ⟨.refl _, .refl _, .refl _, .refl _, .refl _, lst_le ?_, trivial⟩⟩, trivial⟩ rfl rfl, by dsimp only; omega⟩
    ·rw [hst]; simp only [rputS, h1, Bool.false_eq_true, if_false, ne_eq, not_true_eq_false]
    ·rw [hst]; simp only [rputS, h1, Bool.false_eq_true, if_false, ne_eq, not_true_eq_false]
 ·have hlt : k = v.m.length := by have : v.m.length ≤ k := by simpa [rowsM_len] using hb
                                  omega
  subst hlt
  refine AK.exit rfl ?_
  rw [List.take_length]
  have hr := hpl
  rw [List.take_length] at hr
  refine kW ?_
  refine kC (fun hb => ?_) fun hb => ?_
  ·have h1 : (rputF key x v.m).2 = false := by simpa using hb
   refine kW ?_
   refine kP [] ?_ ?_
   ·((repeat' apply And.intro) <;> first | exact kD | (intro hgd; refine ⟨?_, kG⟩; (repeat' apply And.intro) <;> first | exact kD | skip) | skip)
    all_goals simp only [rowsM_len, List.length_nil, List.length_cons]
    all_goals omega
   refine kW ?_
   refine AK.ret ⟨_, rfl, ?_⟩
   simp only [rput, h1, Bool.false_eq_true, if_false, rowsM_append, rowsM, cellsV_eq]
   rfl
  ·have h1 : (rputF key x v.m).2 = true := by simpa using hb
   refine kW ?_
   refine AK.ret ⟨_, rfl, ?_⟩
   simp only [rput, h1, if_true]
   rfl
theorem refGet_a (v : V) (key : ByteArray) (hsz : v.size ≤ 2000000000000) : AC Tryz.prog 43 [(vA (v)), .str key] (getAV (mfind key v.m)) := by
 have hve := v.size_eq
 have hlm := len_le_sizeM v.m
 refine kE Tryz.func43 a_ref01_Get_ok a_ref01_Get_cb fun E hE => ?_
 refine kW ?_
 refine AK.loopI (fun k : Nat => (frOf [(1, .str key), (2, .ptr 2 0), (4, .ptr 4 0), (6, .int .i64 k)], ⟨boxOf [(2, (vC (v)), false), (4, [.int .i64 0, .bool false, .int .i64 0, .str ⟨#[]⟩, .lst .nil 6 [], .lst .nil 7 []], false)], fun _ => 0⟩)) (fun k => k ≤ v.m.length ∧ ∀ j p, j < k → v.m[j]? = some p → p.1 ≠ key) (fun k => v.m.length - k) 0 ⟨by omega, fun j p h => by omega⟩ (Weak.intro ⟨kI, kI, kI, kI, trivial⟩ ⟨kJ, kJ, trivial⟩ rfl rfl) fun k ⟨hk, hr⟩ => ?_
 refine kW ?_
 refine kC (fun hb => ?_) fun hb => ?_
 ·have hlt : k < v.m.length := by simpa [rowsM_len] using hb
  obtain ⟨⟨y, x⟩, hg⟩ : ∃ x, v.m[k]? = some x := ⟨_, List.getElem?_eq_getElem hlt⟩
  refine kW ?_
  refine kP [.c (.str y :: (vC (x)))] ?_ ?_
  ·((repeat' apply And.intro) <;> first | exact kD | (intro hgd; refine ⟨?_, kG⟩; (repeat' apply And.intro) <;> first | exact kD | skip) | skip)
   ·exact rowsM_at hg
  refine kC (fun hb => ?_) fun hb => ?_
  ·have he : y = key := by simpa using hb
   subst he
   refine kW ?_
   refine kP [.c (.str y :: (vC (x)))] ?_ ?_
   ·((repeat' apply And.intro) <;> first | exact kD | (intro hgd; refine ⟨?_, kG⟩; (repeat' apply And.intro) <;> first | exact kD | skip) | skip)
    ·exact rowsM_at hg
   refine kW ?_
   refine AK.ret ⟨_, rfl, ?_⟩
   rw [mfind_at hr hg]
   rfl
  ·have he : y ≠ key := by simpa using hb
   refine kW ?_
   exact AK.lp ⟨k + 1, ⟨by omega, ne_more hr hg he⟩, Weak.intro ⟨kI, kI, kI, kU, trivial⟩ ⟨kJ, kJ, trivial⟩ rfl rfl, by omega⟩
 ·have hlt : k = v.m.length := by have : v.m.length ≤ k := by simpa [rowsM_len] using hb
                                  omega
  subst hlt
  refine AK.exit rfl ?_
  refine kW ?_
  refine AK.ret ⟨_, rfl, ?_⟩
  rw [mfind_none hr]
  rfl
theorem wL_at {l : List V} {x : V} (h : x ∈ l) : x.w ≤ wL l := by
 induction l with
 | nil => cases h
 | cons y l ih =>
  rw [wL]
  rcases List.mem_cons.1 h with rfl | h
  ·omega
  ·have := ih h; omega
theorem wM_at {m : List (ByteArray × V)} {p : ByteArray × V} (h : p ∈ m) : p.2.w ≤ wM m := by
 induction m with
 | nil => cases h
 | cons q m ih =>
  obtain ⟨y, x⟩ := q
  rw [wM]
  rcases List.mem_cons.1 h with rfl | h
  ·simp only; omega
  ·have := ih h; omega
set_option maxHeartbeats 1000000 in
theorem lay_step {N : Nat} (hN : LayOk N) : LayOk (N + 1) := fun v k hs hG hw hk => by
 have hsz := v.size_eq
 have hwe := V.w_eq v
 have hbd := lay_bound v.size v k (Nat.le_refl _) hG.2 hk
 rw [V.lay_eq, ByteArray.size_append] at hbd
 rw [V.lay_eq]
 have hbl := blanks_a k (by omega)
 have hpz := padB_size k
 have hll := len_le_sizeL v.l
 have hml := len_le_sizeM v.m
 refine kE Tryz.func83 a_ref05_lay_ok a_ref05_lay_cb fun E hE => ?_
 refine kW ?_
 refine AK.loopI (fun i : Nat => (frOf [(1, .int .i64 k), (2, .ptr 2 0), (5, .str (layL wordB prB (v.l.take i) k)), (6, .int .i64 i)], ⟨boxOf [(2, (vC (v)), false)], fun _ => 0⟩)) (fun i => i ≤ v.l.length) (fun i => v.l.length - i) 0 (by omega) (Weak.intro ⟨kI, kI, ⟨_, rfl, .of_eq (congrArg AV.str (by rw [List.take_zero, layL]))⟩, kI, trivial⟩ ⟨kJ, trivial⟩ rfl rfl) fun i hi => ?_
 refine kW ?_
 rw [rowsV_len]
 refine kC (fun hb => ?_) fun hb => ?_
 ·have hlt : i < v.l.length := by
   have : (i : Int) < (v.l.length : Int) := by simpa using hb
   omega
  obtain ⟨x, hg⟩ : ∃ x, v.l[i]? = some x := ⟨_, List.getElem?_eq_getElem hlt⟩
  have hx := List.mem_of_getElem? hg
  have hxs := mem_sizeL hx
  have hxw := wL_at hx
  have hta := tail_ra hN x k (by omega) (hG.parts x hx) (by omega) (by omega)
  have htk := layL_take (w := wordB) (pr := prB) hg k
  have hle := layL_le (w := wordB) (pr := prB) v.l (i + 1) k
  have hrow := rowsV_at hg
  have hlen : i < (rowsV v.l).length := by rw [rowsV_len]; exact hlt
  have z1 : (⟨#[45]⟩ : ByteArray).size = 1 := rfl
  have ztk := congrArg ByteArray.size htk
  rw [ByteArray.size_append, ByteArray.size_append, ByteArray.size_append] at ztk
  have y1 : (layL wordB prB (v.l.take i) k ++ padB k).size = (layL wordB prB (v.l.take i) k).size + (padB k).size := ByteArray.size_append ..
  have y2 : (layL wordB prB (v.l.take i) k ++ padB k ++ ⟨#[45]⟩).size = (layL wordB prB (v.l.take i) k).size + (padB k).size + 1 := by rw [ByteArray.size_append, ByteArray.size_append]; rfl
  clear hb
  refine kW ?_
  refine kP [.v (.str (padB k)), .c (vC (x)), .v (.str (x.tail wordB prB k))] ?_ ?_
  ·((repeat' apply And.intro) <;> first | exact kD | (intro hgd; refine ⟨?_, kG⟩; (repeat' apply And.intro) <;> first | exact kD | skip) | skip)
   all_goals first | exact hrow | exact hta | skip
  refine kW ?_
  exact AK.lp ⟨i + 1, by omega, Weak.intro ⟨kI, kI, ⟨_, rfl, .of_eq (congrArg AV.str (by rw [htk]; simp only [ByteArray.append_assoc]))⟩, kU, trivial⟩ ⟨kJ, trivial⟩ rfl rfl, by omega⟩
 ·have hlt : i = v.l.length := by
   have : ¬ (i : Int) < (v.l.length : Int) := by simpa using hb
   omega
  subst hlt
  rw [List.take_length]
  clear hb hi
  refine AK.exit rfl ?_
  refine kW ?_
  refine AK.loopI (fun i : Nat => (frOf [(1, .int .i64 k), (2, .ptr 2 0), (5, .str (layL wordB prB v.l k ++ layM wordB prB (v.m.take i) k)), (7, .int .i64 i)], ⟨boxOf [(2, (vC (v)), false)], fun _ => 0⟩)) (fun i => i ≤ v.m.length) (fun i => v.m.length - i) 0 (by omega) (Weak.intro ⟨kI, kI, ⟨_, rfl, .of_eq (congrArg AV.str (by rw [List.take_zero, layM]; exact ByteArray.append_empty.symm))⟩, kI, trivial⟩ ⟨kJ, trivial⟩ rfl rfl) fun i hi => ?_
  refine kW ?_
  rw [rowsM_len]
  refine kC (fun hb => ?_) fun hb => ?_
  ·have hlt : i < v.m.length := by
    have : (i : Int) < (v.m.length : Int) := by simpa using hb
    omega
   obtain ⟨p, hg⟩ : ∃ x, v.m[i]? = some x := ⟨_, List.getElem?_eq_getElem hlt⟩
   obtain ⟨y, x⟩ := p
   have hx := List.mem_of_getElem? hg
   have hxs := mem_sizeM hx
   have hxw := wM_at hx
   obtain ⟨hGx, hyz⟩ := hG.keys (y, x) hx
   simp only at hxs hxw hGx hyz
   have hke := key_a y (by omega)
   have hwz := wordB_size y
   have hta := tail_ra hN x k (by omega) hGx (by omega) (by omega)
   have htk := layM_take (w := wordB) (pr := prB) hg k
   have hle := layM_le (w := wordB) (pr := prB) v.m (i + 1) k
   have hrow := rowsM_at hg
   have hlen : i < (rowsM v.m).length := by rw [rowsM_len]; exact hlt
   have z1 : (⟨#[58]⟩ : ByteArray).size = 1 := rfl
   have ztk := congrArg ByteArray.size htk
   rw [ByteArray.size_append, ByteArray.size_append, ByteArray.size_append, ByteArray.size_append] at ztk
   generalize hS : layL wordB prB v.l k ++ layM wordB prB (v.m.take i) k = S
   have hSz : S.size = (layL wordB prB v.l k).size + (layM wordB prB (v.m.take i) k).size := by rw [← hS, ByteArray.size_append]
   have y1 : (S ++ padB k).size = S.size + (padB k).size := ByteArray.size_append ..
   have y2 : (S ++ padB k ++ wordB y).size = S.size + (padB k).size + (wordB y).size := by rw [ByteArray.size_append, ByteArray.size_append]
   have y3 : (S ++ padB k ++ wordB y ++ ⟨#[58]⟩).size = S.size + (padB k).size + (wordB y).size + 1 := by rw [ByteArray.size_append, ByteArray.size_append, ByteArray.size_append]; rfl
   clear hb
   refine kW ?_
   refine kP [.v (.str (padB k)), .c (.str y :: (vC (x))), .v (.str (wordB y)), .c (.str y :: (vC (x))), .v (.str (x.tail wordB prB k))] ?_ ?_
   ·((repeat' apply And.intro) <;> first | exact kD | (intro hgd; refine ⟨?_, kG⟩; (repeat' apply And.intro) <;> first | exact kD | skip) | skip)
    all_goals first | exact hrow | exact hta | exact hke | skip
   refine kW ?_
   exact AK.lp ⟨i + 1, by omega, Weak.intro ⟨kI, kI, ⟨_, rfl, .of_eq (congrArg AV.str (by rw [htk, ← hS]; simp only [ByteArray.append_assoc]))⟩, kU, trivial⟩ ⟨kJ, trivial⟩ rfl rfl, by omega⟩
  ·have hlt : i = v.m.length := by
    have : ¬ (i : Int) < (v.m.length : Int) := by simpa using hb
    omega
   subst hlt
   rw [List.take_length]
   refine AK.exit rfl ?_
   refine kW ?_
   refine AK.ret ⟨_, rfl, ?_⟩
   rfl
theorem lay_ok : ∀ N, LayOk N
 | 0 => fun v _ h => by have := v.size_pos; omega
 | N + 1 => lay_step (lay_ok N)
theorem refEmit_a (v : V) (hG : Gd v) (hw : v.w ≤ 6000) (hs : v.size ≤ 6000) : AC Tryz.prog 45 [(vA (v))] (.str (v.emit wordB prB)) := by
 have hE := empty_a v
 have hps := prB_size v hG.2
 have ht := hG.text
 have hP := fun h => refPrintAll_a v hG h
 have hL := lay_ok v.size v 0 (Nat.le_refl _) hG hw (by omega)
 have z2 : (⟨#[10]⟩ : ByteArray).size = 1 := rfl
 unfold V.emit
 refine kE Tryz.func45 a_ref05_Emit_ok a_ref05_Emit_cb fun E hE => ?_
 refine kW ?_
 refine kQ [.v (.bool v.leaf)] ?_
 refine kC (fun hb => ?_) fun hb => ?_
 ·have hP := hP hb
  rw [if_pos hb]
  refine kW ?_
  refine kQ [.v (.str (prB v))] ?_
  refine kW ?_
  refine AK.ret ⟨_, rfl, ?_⟩
  rfl
 ·rw [if_neg (by rw [hb]; simp)]
  refine kW ?_
  refine kQ [.v (.str (v.lay wordB prB 0))] ?_
  refine kW ?_
  refine AK.ret ⟨_, rfl, ?_⟩
  rfl
theorem sdrop_at (s : ByteArray) {k : Nat} (h : k < s.size) : s.data.toList.drop k = s[k] :: s.data.toList.drop (k + 1) := by
 have hk : k < s.data.toList.length := by simpa using h
 rw [List.drop_eq_getElem_cons hk]
 rfl
theorem ext_le (s : ByteArray) (a b : Nat) : (s.extract a b).size ≤ s.size := by
 rw [ByteArray.size_extract]; omega
theorem byte1 (s : ByteArray) {k : Nat} (h : k < s.size) : s.extract k (k + 1) = ⟨#[s.data.getD k 0]⟩ := by
 rw [byte_at h, Lib.extract_eq]
 show ByteArray.mk (((s.data.toList.drop k).take (k + 1 - k)).toArray) = _
 rw [show k + 1 - k = 1 by omega, List.drop_eq_getElem_cons (show k < s.data.toList.length from h)]
 rfl
theorem dropU_eq (w : ByteArray) : toB (dropU w.data.toList) = (if (decide ((w.size : Int) > 0) && decide (((w.data.getD 0 0).toNat : Int) = 95)) = true then w.extract 1 w.size else w) := by
 have hz : w.data.toList.length = w.size := rfl
 have hg : ∀ x l, w.data.toList = x :: l → w.data.getD 0 0 = x := fun x l h => by
  rw [Array.getD_eq_getD_getElem?, ← Array.getElem?_toList, h]
  rfl
 cases h : w.data.toList with
 | nil =>
  rw [h] at hz
  rw [if_neg (by rw [← hz]; simp)]
  refine ba_ext ?_
  rw [h]
  rfl
 | cons c t =>
  rw [h] at hz
  have hz : t.length + 1 = w.size := by simpa using hz
  rw [hg c t h, decide_eq_true (show (w.size : Int) > 0 by omega), Bool.true_and, dropU]
  by_cases hc : c = 95
  ·subst hc
   rw [if_pos rfl, if_pos (by decide)]
   refine ba_ext ?_
   rw [Lib.extract_eq]
   show t = (w.data.toList.drop 1).take (w.size - 1)
   rw [h, ← hz]
   simp
  ·rw [if_neg hc, if_neg]
   ·refine ba_ext ?_
    rw [h]
    rfl
   ·intro h2
    have h3 : ((c.toNat : Int)) = 95 := of_decide_eq_true h2
    exact hc (UInt8.toNat_inj.1 (show c.toNat = 95 by omega))
theorem refName10_a (s : ByteArray) (hs : s.size ≤ 140737488355328) : AC Tryz.prog 16 [.str s] (.bool (nameC s)) := by
 rw [name_ref]
 refine kE Tryz.func16 a_ref10_Name_ok a_ref10_Name_cb fun E hE => ?_
 refine kW ?_
 refine kC (fun hb => ?_) fun hb => ?_
 ·have h : 256 < s.size := by have := of_decide_eq_true hb; omega
  rw [if_pos h]
  refine kW ?_
  refine AK.ret ⟨_, rfl, ?_⟩
  rfl
 have h : ¬ 256 < s.size := by have := of_decide_eq_false hb; omega
 rw [if_neg h]
 refine kW ?_
 refine AK.loopI (fun i : Nat × ByteArray => (frOf [(0, .str s), (3, .str i.2), (4, .int .i64 i.1)], ⟨boxOf [], fun _ => 0⟩)) (fun i => i.1 ≤ s.size + 1 ∧ i.2.size ≤ i.1 ∧ ((i.1 ≤ s.size ∧ namR [] s.data.toList = namR i.2.data.toList (s.data.toList.drop i.1)) ∨ (i.1 = s.size + 1 ∧ namR [] s.data.toList = true))) (fun i => s.size + 1 - i.1) (0, ⟨#[]⟩)
  ⟨by omega, Nat.le_refl _, .inl ⟨Nat.zero_le _, rfl⟩⟩ (Weak.intro ⟨kI, kI, kI, trivial⟩ trivial rfl rfl) fun ⟨k, w⟩ ⟨hk, hw, hN⟩ => ?_
 dsimp only at hk hw hN
 dsimp only
 refine kW ?_
 refine kC (fun hb => ?_) fun hb => ?_
 ·have hk : k ≤ s.size := by have := of_decide_eq_true hb; omega
  have hN : namR [] s.data.toList = namR w.data.toList (s.data.toList.drop k) := by
   rcases hN with ⟨_, h⟩ | ⟨h, _⟩
   ·exact h
   ·omega
  have hdr : k < s.size → s.data.toList.drop k = s.data.getD k 0 :: s.data.toList.drop (k + 1) := fun hlt => by
   rw [byte_at hlt]; exact sdrop_at s hlt
  refine kW ?_
  refine kP [] ?_ ?_
  ·((repeat' apply And.intro) <;> first | exact kD | (intro hgd; refine ⟨?_, kG⟩; (repeat' apply And.intro) <;> first | exact kD | skip) | skip)
   all_goals (have hh := of_decide_eq_true (show decide _ = true from hgd); omega)
  refine kC (fun hb => ?_) fun hb => ?_
  ·obtain ⟨h1, h2⟩ := Bool.and_eq_true_iff.1 hb
   have hlt : k < s.size := by have := of_decide_eq_true h1; omega
   have hc : s.data.getD k 0 ≠ 47 := fun e => by
    have e1 : ((k : Int)).toNat = k := by omega
    rw [e1, e] at h2
    cases h2
   rw [hdr hlt, namR, if_neg hc] at hN
   refine kW ?_
   refine kP [] ?_ ?_
   ·((repeat' apply And.intro) <;> first | exact kD | (intro hgd; refine ⟨?_, kG⟩; (repeat' apply And.intro) <;> first | exact kD | skip) | skip)
    all_goals simp only [wrap_in (show -9223372036854775808 ≤ (k : Int) + 1 by omega) (show (k : Int) + 1 ≤ 9223372036854775807 by omega)]
    all_goals (have hz1 := ext_le s (k : Int).toNat ((k : Int) + 1).toNat; omega)
   refine AK.exit rfl ?_
   refine kW ?_
   refine AK.lp ⟨(k + 1, w ++ ⟨#[s.data.getD k 0]⟩), ⟨by dsimp only; omega, by dsimp only; rw [ByteArray.size_append]; show w.size + 1 ≤ _; omega, .inl ⟨by dsimp only; omega, ?_⟩⟩, Weak.intro ⟨kI, ⟨_, rfl, .of_eq (congrArg AV.str ?_)⟩, kU, trivial⟩ trivial rfl rfl, by dsimp only; omega⟩
   ·dsimp only
    rw [hN]
    congr 1
   ·dsimp only
    rw [← byte1 s hlt]
    have e1 : ((k : Int)).toNat = k := by omega
    have e2 : (IntKind.i64.wrap ((k : Int) + 1)).toNat = k + 1 := by rw [wrap_in (by omega) (by omega)]; omega
    rw [e1, e2]
  ·obtain ⟨rest, hN3, hr⟩ : ∃ rest, namR [] s.data.toList = (tstW w.data.toList && rest) ∧ ((k < s.size ∧ rest = namR [] (s.data.toList.drop (k + 1))) ∨ (k = s.size ∧ rest = true)) := by
    by_cases hlt : k < s.size
    ·have hc : s.data.getD k 0 = 47 := by
      have e1 : ((k : Int)).toNat = k := by omega
      rw [decide_eq_true (show (k : Int) < (s.size : Int) by omega), Bool.true_and, e1] at hb
      have h3 : (((s.data.getD k 0).toNat : Int)) = 47 := by simpa using hb
      exact UInt8.toNat_inj.1 (show (s.data.getD k 0).toNat = 47 by omega)
     rw [hdr hlt, namR, if_pos hc] at hN
     exact ⟨_, hN, .inl ⟨hlt, rfl⟩⟩
    ·have e : k = s.size := by omega
     have e2 : s.data.toList.drop k = [] := by rw [e]; exact List.drop_eq_nil_of_le (Nat.le_refl _)
     rw [e2, namR] at hN
     exact ⟨true, by rw [hN, Bool.and_true], .inr ⟨e, rfl⟩⟩
   have hT := dropU_eq w
   have hzw : (toB (dropU w.data.toList)).size ≤ w.size := by
    show (dropU w.data.toList).toArray.size ≤ w.data.toList.length
    rw [List.size_toArray]
    cases w.data.toList with
    | nil => exact Nat.le_refl _
    | cons c t => rw [dropU]; split <;> simp
   have hB := refBare_a (toB (dropU w.data.toList)) (by omega)
   rw [show bareB (toB (dropU w.data.toList)) = tstW w.data.toList from rfl] at hB
   rw [hT] at hB
   clear hT
   refine kW ?_
   refine kP [] ?_ ?_
   ·((repeat' apply And.intro) <;> first | exact kD | (intro hgd; refine ⟨?_, kG⟩; (repeat' apply And.intro) <;> first | exact kD | skip) | skip)
    all_goals (have hh := of_decide_eq_true (show decide _ = true from hgd); omega)
   refine kC (fun hb => ?_) fun hb => ?_
   ·have hb2 : (decide ((w.size : Int) > 0) && decide (((w.data.getD 0 0).toNat : Int) = 95)) = true := hb
    rw [if_pos hb2] at hB
    have hw0 : 0 < w.size := by
     have := of_decide_eq_true (Bool.and_eq_true_iff.1 hb).1
     omega
    refine kW ?_
    refine kQ [] ?_
    refine kW ?_
    refine kQ [.v (.bool (tstW w.data.toList))] ?_
    refine kC (fun hb => ?_) fun hb => ?_
    ·have h1 : tstW w.data.toList = false := by simpa using hb
     rw [h1, Bool.false_and] at hN3
     refine kW ?_
     refine AK.ret ⟨_, rfl, ?_⟩
     rw [hN3]
     rfl
    ·have h1 : tstW w.data.toList = true := by simpa using hb
     rw [h1, Bool.true_and] at hN3
     refine kW ?_
     exact AK.lp ⟨(k + 1, ⟨#[]⟩), ⟨by dsimp only; omega, by dsimp only; exact Nat.zero_le _, by
      dsimp only
      rcases hr with ⟨h2, h3⟩ | ⟨h2, h3⟩
      ·exact .inl ⟨by omega, by rw [hN3, h3]⟩
      ·exact .inr ⟨by omega, by rw [hN3, h3]⟩⟩, Weak.intro ⟨kI, kI, kU, trivial⟩ trivial rfl rfl, by dsimp only; omega⟩
   ·have hb2 : (decide ((w.size : Int) > 0) && decide (((w.data.getD 0 0).toNat : Int) = 95)) = false := hb
    rw [if_neg (by rw [hb2]; simp)] at hB
    refine kW ?_
    refine kQ [.v (.bool (tstW w.data.toList))] ?_
    refine kC (fun hb => ?_) fun hb => ?_
    ·have h1 : tstW w.data.toList = false := by simpa using hb
     rw [h1, Bool.false_and] at hN3
     refine kW ?_
     refine AK.ret ⟨_, rfl, ?_⟩
     rw [hN3]
     rfl
    ·have h1 : tstW w.data.toList = true := by simpa using hb
     rw [h1, Bool.true_and] at hN3
     refine kW ?_
     exact AK.lp ⟨(k + 1, ⟨#[]⟩), ⟨by dsimp only; omega, by dsimp only; exact Nat.zero_le _, by
      dsimp only
      rcases hr with ⟨h2, h3⟩ | ⟨h2, h3⟩
      ·exact .inl ⟨by omega, by rw [hN3, h3]⟩
      ·exact .inr ⟨by omega, by rw [hN3, h3]⟩⟩, Weak.intro ⟨kI, kI, kU, trivial⟩ trivial rfl rfl, by dsimp only; omega⟩
 ·have hk2 : k = s.size + 1 := by have := of_decide_eq_false hb; omega
  have hN : namR [] s.data.toList = true := by
   rcases hN with ⟨h, _⟩ | ⟨_, h⟩
   ·omega
   ·exact h
  refine AK.exit rfl ?_
  refine kW ?_
  refine AK.ret ⟨_, rfl, ?_⟩
  rw [hN]
  rfl
theorem lsum_app : ∀ a b : List Fl, lsum (a ++ b) = lsum a + lsum b
 | [], b => by simp [lsum]
 | p :: a, b => by rw [List.cons_append, lsum, lsum, lsum_app a b]; omega
theorem lsum_mem {p : Fl} : ∀ {l : List Fl}, p ∈ l → p.1.size + p.2.size ≤ lsum l
 | q :: l, h => by
  rw [lsum]
  rcases List.mem_cons.1 h with rfl | h
  ·omega
  ·have := lsum_mem h; omega
theorem lsum_le {l : List Fl} (h : ∀ p ∈ l, p.1.size ≤ 140737488355328 ∧ p.2.size ≤ 140737488355328) : lsum l ≤ l.length * 281474976710657 := by
 induction l with
 | nil => exact Nat.zero_le _
 | cons p l ih =>
  have h1 := ih fun q hq => h q (by simp [hq])
  have h2 := h p (by simp)
  rw [lsum, List.length_cons]
  omega
theorem light_sum {l : List Fl} (h32 : l.length ≤ 32) (h : ∀ p ∈ l, p.1.size ≤ 140737488355328 ∧ p.2.size ≤ 140737488355328) : ∀ k, k ≤ l.length → lightN l k = (lsum (l.take k) : Nat)
 | 0, _ => rfl
 | k + 1, hk => by
  obtain ⟨p, hg⟩ : ∃ x, l[k]? = some x := ⟨_, List.getElem?_eq_getElem (by omega)⟩
  have hd : l.getD k (⟨#[]⟩, ⟨#[]⟩) = p := by rw [List.getD_eq_getElem?_getD, hg]; rfl
  have hp := h p (List.mem_of_getElem? hg)
  have e : l.take (k + 1) = l.take k ++ [p] := by rw [List.take_add_one, hg]; rfl
  have h1 : lsum (l.take k) ≤ 32 * 281474976710657 := by
   have := lsum_le (l := l.take k) fun q hq => h q (List.mem_of_mem_take hq)
   have h3 : (l.take k).length ≤ 32 := by rw [List.length_take]; omega
   exact Nat.le_trans this (Nat.mul_le_mul_right _ h3)
  rw [lightN, light_sum h32 h k (by omega), hd, e, lsum_app, lsum, lsum, wrap_in (n := (p.1.size : Int) + (p.2.size : Int)) (by omega) (by omega), wrap_in (n := (p.1.size : Int) + (p.2.size : Int) + 1) (by omega) (by omega), wrap_in (by omega) (by omega)]
  omega
theorem light_small {l : List Fl} (h32 : l.length ≤ 32) (h : ∀ p ∈ l, p.1.size ≤ 140737488355328 ∧ p.2.size ≤ 140737488355328) (hl : lightN l l.length ≤ 3000) : ∀ p ∈ l, p.1.size ≤ 1000000 ∧ p.2.size ≤ 1000000 := fun p hp => by
 rw [light_sum h32 h _ (Nat.le_refl _), List.take_length] at hl
 have := lsum_mem hp
 omega
theorem light_sum3 {l : List Fl} (h32 : l.length ≤ 32) (h : ∀ p ∈ l, p.1.size ≤ 140737488355328 ∧ p.2.size ≤ 140737488355328) (hl : lightN l l.length ≤ 3000) : lsum l ≤ 3000 := by
 rw [light_sum h32 h _ (Nat.le_refl _), List.take_length] at hl
 omega
theorem sorted_a (l : List Fl) (hl : l.length ≤ 1000) : AC Tryz.prog 12 [.lst .any 2 (rowsF l)] (.lst .any 2 (rowsF (sortF l))) := by
 refine kE Tryz.func12 a_ref10_Sorted_ok a_ref10_Sorted_cb fun E hE => ?_
 refine kW ?_
 refine AK.loopI (fun i : Nat × (Nat → Nat) => (frOf [(0, .lst .any 2 (rowsF l)), (3, .lst .any 2 (rowsF (sortF (l.take i.1)))), (4, .int .i64 i.1)], ⟨boxOf [], i.2⟩)) (fun i => i.1 ≤ l.length) (fun i => l.length - i.1) (0, fun _ => 0) (Nat.zero_le _)
  (Weak.intro ⟨kI, ⟨_, rfl, .one (.any _ _ _)⟩, kI, trivial⟩ trivial rfl rfl) fun ⟨k, r⟩ hk => ?_
 dsimp only at hk
 dsimp only
 refine kW ?_
 refine kC (fun hb => ?_) fun hb => ?_
 ·have hlt : k < l.length := by simpa [rowsF_len] using hb
  obtain ⟨p, hg⟩ : ∃ x, l[k]? = some x := ⟨_, List.getElem?_eq_getElem hlt⟩
  have hs : sortF (l.take (k + 1)) = insF p (sortF (l.take k)) := by rw [List.take_add_one, hg]; exact sortF_snoc _ _
  have hol : (sortF (l.take k)).length ≤ 1000 := by rw [sortF_len, List.length_take]; omega
  generalize sortF (l.take k) = out at *
  refine kW ?_
  refine AK.loopI (fun j : Nat => (frOf [(0, .lst .any 2 (rowsF l)), (3, .lst .any 2 (rowsF out)), (4, .int .i64 k), (5, .int .i64 j)], ⟨boxOf [], r⟩)) (fun j => j ≤ out.length ∧ ∀ (i : Nat) q, i < j → out[i]? = some q → Op.bytesLess q.1.toList p.1.toList = true) (fun j => out.length - j) 0
   ⟨Nat.zero_le _, fun i q h => by omega⟩ (Weak.intro ⟨kI, kI, kI, kI, trivial⟩ trivial rfl rfl) fun j ⟨hj, hall⟩ => ?_
  refine kW ?_
  have fin : (∀ q, out[j]? = some q → Op.bytesLess q.1.toList p.1.toList = false) → insF p out = out.take j ++ p :: out.drop j := insF_at out j hall
  have hrow : (([] ++ ((rowsF out).take ((j : Nat) : Int).toNat).drop ((0 : Nat) : Int).toNat) ++ [[.str p.1, .str p.2]]) ++ ((rowsF out).take (((rowsF out).length : Nat) : Int).toNat).drop ((j : Nat) : Int).toNat = rowsF (out.take j ++ p :: out.drop j) := by
   simp [rowsF]
   rw [List.take_of_length_le (by simp)]
  cases hx : out[j]? with
  | none =>
   have hjl : out.length ≤ j := List.getElem?_eq_none_iff.1 hx
   have hz : decide ((j : Int) < ((rowsF out).length : Int)) = false := by rw [rowsF_len]; simpa using hjl
   refine kP [.c [.str ⟨#[]⟩, .str ⟨#[]⟩], .c [.str p.1, .str p.2]] ?_ ?_
   ·((repeat' apply And.intro) <;> first | exact kD | (intro hgd; refine ⟨?_, kG⟩; (repeat' apply And.intro) <;> first | exact kD | skip) | skip)
    all_goals (exfalso; rw [hz] at hgd; simp [gd] at hgd)
   rw [hz]
   refine kC (fun hb => ?_) fun hb => ?_
   ·cases hb
   refine AK.exit rfl ?_
   have fin := fin (fun q h => by rw [hx] at h; cases h)
   refine kW ?_
   refine kP [] ?_ ?_
   ·((repeat' apply And.intro) <;> first | exact kD | (intro hgd; refine ⟨?_, kG⟩; (repeat' apply And.intro) <;> first | exact kD | skip) | skip)
    all_goals simp only [rowsF_len, List.length_nil, List.length_take, List.length_drop]
    all_goals omega
   refine kW ?_
   refine kP [.c [.str p.1, .str p.2]] ?_ ?_
   ·((repeat' apply And.intro) <;> first | exact kD | (intro hgd; refine ⟨?_, kG⟩; (repeat' apply And.intro) <;> first | exact kD | skip) | skip)
    ·exact rowsF_at hg
    all_goals simp only [rowsF_len, List.length_nil, List.length_take, List.length_drop, List.length_append, List.length_cons]
    all_goals omega
   refine kW ?_
   refine kP [] ?_ ?_
   ·((repeat' apply And.intro) <;> first | exact kD | (intro hgd; refine ⟨?_, kG⟩; (repeat' apply And.intro) <;> first | exact kD | skip) | skip)
    all_goals simp only [rowsF_len, List.length_nil, List.length_take, List.length_drop, List.length_append, List.length_cons]
    all_goals omega
   refine kW ?_
   refine AK.lp ⟨(k + 1, _), by dsimp only; omega, Weak.intro ⟨kI, ⟨_, rfl, ?_⟩, kU, trivial⟩ trivial rfl rfl, by dsimp only; omega⟩
   dsimp only
   rw [hs, fin, ← hrow]
   exact .one (.any _ _ _)
  | some q =>
   have hjl : j < out.length := (List.getElem?_eq_some_iff.1 hx).1
   have hz : decide ((j : Int) < ((rowsF out).length : Int)) = true := by rw [rowsF_len]; simpa using hjl
   refine kP [.c [.str q.1, .str q.2], .c [.str p.1, .str p.2]] ?_ ?_
   ·((repeat' apply And.intro) <;> first | exact kD | (intro hgd; refine ⟨?_, kG⟩; (repeat' apply And.intro) <;> first | exact kD | skip) | skip)
    all_goals first | exact rowsF_at hx | exact rowsF_at hg | (simp only [rowsF_len]; omega) | skip
   rw [hz, Bool.true_and]
   refine kC (fun hb => ?_) fun hb => ?_
   ·refine kW ?_
    exact AK.lp ⟨j + 1, ⟨by omega, fun i x h hi => by
     by_cases e : i = j
     ·subst e; rw [hx] at hi; cases hi; exact hb
     ·exact hall i x (by omega) hi⟩, Weak.intro ⟨kI, kI, kI, kU, trivial⟩ trivial rfl rfl, by omega⟩
   refine AK.exit rfl ?_
   have fin := fin (fun q h => by rw [hx] at h; cases h; exact hb)
   refine kW ?_
   refine kP [] ?_ ?_
   ·((repeat' apply And.intro) <;> first | exact kD | (intro hgd; refine ⟨?_, kG⟩; (repeat' apply And.intro) <;> first | exact kD | skip) | skip)
    all_goals simp only [rowsF_len, List.length_nil, List.length_take, List.length_drop]
    all_goals omega
   refine kW ?_
   refine kP [.c [.str p.1, .str p.2]] ?_ ?_
   ·((repeat' apply And.intro) <;> first | exact kD | (intro hgd; refine ⟨?_, kG⟩; (repeat' apply And.intro) <;> first | exact kD | skip) | skip)
    ·exact rowsF_at hg
    all_goals simp only [rowsF_len, List.length_nil, List.length_take, List.length_drop, List.length_append, List.length_cons]
    all_goals omega
   refine kW ?_
   refine kP [] ?_ ?_
   ·((repeat' apply And.intro) <;> first | exact kD | (intro hgd; refine ⟨?_, kG⟩; (repeat' apply And.intro) <;> first | exact kD | skip) | skip)
    all_goals simp only [rowsF_len, List.length_nil, List.length_take, List.length_drop, List.length_append, List.length_cons]
    all_goals omega
   refine kW ?_
   refine AK.lp ⟨(k + 1, _), by dsimp only; omega, Weak.intro ⟨kI, ⟨_, rfl, ?_⟩, kU, trivial⟩ trivial rfl rfl, by dsimp only; omega⟩
   dsimp only
   rw [hs, fin, ← hrow]
   exact .one (.any _ _ _)
 ·have hlt : k = l.length := by have : l.length ≤ k := by simpa [rowsF_len] using hb
                                omega
  subst hlt
  refine AK.exit rfl ?_
  refine kW ?_
  refine AK.ret ⟨_, rfl, ?_⟩
  rw [List.take_length]
  rfl
theorem refPack_a (l : List Fl) (hl : l.length ≤ 4398046511103) (hz : l.length ≤ 32 → lsum l ≤ 3000) :
  AC Tryz.prog 9 [.lst .any 2 (rowsF l)] (.tup [.str (packP nameC 22 emitP l).1, .int .i64 (packP nameC 22 emitP l).2]) := by
 refine kE Tryz.func9 a_ref22_Pack_ok a_ref22_Pack_cb fun E hE => ?_
 refine kW ?_
 refine kC (fun hb => ?_) fun hb => ?_
 ·have h32 : 32 < l.length := by simp [rowsF_len] at hb; omega
  refine kW ?_
  refine AK.ret ⟨_, rfl, ?_⟩
  rw [packP, if_pos h32]
  rfl
 have h32 : ¬ 32 < l.length := by simp [rowsF_len] at hb; omega
 have hz := hz (by omega)
 refine kW ?_
 refine AK.loopI (fun i : Nat × List (ByteArray × V) => (frOf [(0, .lst .any 2 (rowsF l)), (4, .ptr 4 0), (5, .int .i64 i.1)], ⟨boxOf [(4, (vC ((vMap i.2))), false)], fun _ => 0⟩))
  (fun i => i.1 ≤ l.length ∧ packE nameC 22 l [] = packE nameC 22 (l.drop i.1) i.2 ∧ Rises i.2 ∧ FlatM i.2 ∧ i.2.length ≤ i.1) (fun i => l.length - i.1) (0, []) ⟨Nat.zero_le _, rfl, List.Pairwise.nil, fun p hp => (by cases hp), Nat.le_refl _⟩
  (Weak.intro ⟨kI, kI, kI, trivial⟩ ⟨⟨_, rfl, ⟨.refl _, .refl _, .refl _, .refl _, .any _ _ _, .any _ _ _, trivial⟩⟩, trivial⟩ rfl rfl) fun ⟨k, m⟩ ⟨hk, hP, hr, hf, hml⟩ => ?_
 dsimp only at hk hP hr hf hml
 dsimp only
 have hsm := flat_size hf
 refine kW ?_
 refine kC (fun hb => ?_) fun hb => ?_
 ·have hlt : k < l.length := by simpa [rowsF_len] using hb
  obtain ⟨p, hg⟩ : ∃ x, l[k]? = some x := ⟨_, List.getElem?_eq_getElem hlt⟩
  have hpz := lsum_mem (List.mem_of_getElem? hg)
  have hd := drop_atT hg
  rw [← hd] at hP
  have hm2 := (minsert_bound (key := p.1) (x := vTxt p.2) m).2
  have hN := refName10_a p.1 (by omega)
  have hT := refText_a p.2 (by omega)
  have hG : AC Tryz.prog 43 [(vA ((vMap m))), .str p.1] (.tup [(vA (((mfind p.1 m).getD V.null))), .bool (mfind p.1 m).isSome]) := by
   have := refGet_a (vMap m) p.1 (by rw [vMap_size]; omega)
   rw [show (vMap m).m = m from rfl] at this
   cases h : mfind p.1 m <;> (rw [h] at this; exact this)
  have hPu := refPut_a (vMap m) (vTxt p.2) p.1 (by rw [vMap_size]; omega)
  rw [show (vMap m).m = m from rfl, rput_eq hr] at hPu
  refine kW ?_
  refine kP [.c [.str p.1, .str p.2], .v (.bool (nameC p.1))] ?_ ?_
  ·((repeat' apply And.intro) <;> first | exact kD | (intro hgd; refine ⟨?_, kG⟩; (repeat' apply And.intro) <;> first | exact kD | skip) | skip)
   all_goals first | exact rowsF_at hg | skip
  refine kC (fun hb => ?_) fun hb => ?_
  ·have hn : nameC p.1 = false := by simpa using hb
   refine kW ?_
   refine AK.ret ⟨_, rfl, ?_⟩
   rw [packP, if_neg h32, hP, packE, if_pos hn]
   rfl
  have hn : nameC p.1 = true := by simpa using hb
  have hn' : ¬ nameC p.1 = false := by rw [hn]; simp
  refine kW ?_
  refine kP [.c [.str p.1, .str p.2], .v (.bool (textB p.2))] ?_ ?_
  ·((repeat' apply And.intro) <;> first | exact kD | (intro hgd; refine ⟨?_, kG⟩; (repeat' apply And.intro) <;> first | exact kD | skip) | skip)
   all_goals first | exact rowsF_at hg | skip
  refine kC (fun hb => ?_) fun hb => ?_
  ·have ht : textB p.2 = false := by simpa using hb
   refine kW ?_
   refine AK.ret ⟨_, rfl, ?_⟩
   rw [packP, if_neg h32, hP, packE, if_neg hn', if_pos ht]
   rfl
  have ht : textB p.2 = true := by simpa using hb
  have ht' : ¬ textB p.2 = false := by rw [ht]; simp
  refine kW ?_
  refine kP [.c [.str p.1, .str p.2], .v (.tup [(vA (((mfind p.1 m).getD V.null))), .bool (mfind p.1 m).isSome])] ?_ ?_
  ·((repeat' apply And.intro) <;> first | exact kD | (intro hgd; refine ⟨?_, kG⟩; (repeat' apply And.intro) <;> first | exact kD | skip) | skip)
   all_goals first | exact rowsF_at hg | exact hG | skip
  refine kW ?_
  refine kC (fun hb => ?_) fun hb => ?_
  ·refine kW ?_
   refine AK.ret ⟨_, rfl, ?_⟩
   rw [packP, if_neg h32, hP, packE, if_neg hn', if_neg ht', if_pos hb]
   rfl
  have hh' : ¬ (mfind p.1 m).isSome = true := by rw [hb]; simp
  refine kW ?_
  refine kP [.c [.str p.1, .str p.2], .c [.str p.1, .str p.2], .v ((vA ((vMap (minsert p.1 (vTxt p.2) m)))))] ?_ ?_
  ·((repeat' apply And.intro) <;> first | exact kD | (intro hgd; refine ⟨?_, kG⟩; (repeat' apply And.intro) <;> first | exact kD | skip) | skip)
   all_goals first | exact rowsF_at hg | exact hPu | skip
  refine kW ?_
  rw [packE, if_neg hn', if_neg ht', if_neg hh'] at hP
  exact AK.lp ⟨(k + 1, minsert p.1 (vTxt p.2) m), ⟨by dsimp only; omega, hP, minsert_rises hr, flat_insert hf (by omega) (by omega), by dsimp only; omega⟩, Weak.intro ⟨kI, kI, kU, trivial⟩ ⟨kJ, trivial⟩ rfl rfl, by dsimp only; omega⟩
 ·have hlt : k = l.length := by have : l.length ≤ k := by simpa [rowsF_len] using hb
                                omega
  subst hlt
  rw [List.drop_length, packE] at hP
  have hF := (packE_flat (l := l) (by omega) (by rw [hP])).1
  have hw := packE_w (nameB := nameC) (eN := 22) l []
  rw [hP] at hF hw
  have hE := refEmit_a (vMap m) hF.gd (by rw [vMap_w]; simp only [wM] at hw; omega) (by rw [vMap_size]; omega)
  refine AK.exit rfl ?_
  refine kW ?_
  refine kP [.v (.str (emitP m))] ?_ ?_
  ·((repeat' apply And.intro) <;> first | exact kD | (intro hgd; refine ⟨?_, kG⟩; (repeat' apply And.intro) <;> first | exact kD | skip) | skip)
   all_goals first | exact hE | skip
  refine kW ?_
  refine kC (fun hb => ?_) fun hb => ?_
  ·have hz2 : 65536 < (emitP m).size := by simp at hb; omega
   refine kW ?_
   refine AK.ret ⟨_, rfl, ?_⟩
   rw [packP, if_neg h32, hP, if_neg (by simp), if_pos hz2]
   rfl
  ·have hz2 : ¬ 65536 < (emitP m).size := by simp at hb; omega
   refine kW ?_
   refine AK.ret ⟨_, rfl, ?_⟩
   rw [packP, if_neg h32, hP, if_neg (by simp), if_neg hz2]
   rfl
end Go.Proofs.YtbfiopoefbbknaaGreatDoor
