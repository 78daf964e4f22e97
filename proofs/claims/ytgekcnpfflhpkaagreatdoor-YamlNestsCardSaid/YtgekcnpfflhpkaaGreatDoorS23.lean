/-
  The texts that the claim wants, one behind the other: part 23.
-/
import Derived.Test.YtgekcnpfflhpkaaGreatDoorS22
import Derived.Lib.AppendIntMem
set_option linter.unusedSimpArgs false
set_option linter.unusedVariables false
namespace Go.Proofs.YtgekcnpfflhpkaaGreatDoor
open Go.RowKit
theorem Holds.on {σ : Sg} {w w' : World} (hh : Holds σ w) (hb : Below w.heap.size w w') : Holds σ w' := fun b q v hv => (hb.cell (p := ⟨b, q, none⟩) (World.block_lt_of_cell? w _ (hh _ _ _ hv))).trans (hh _ _ _ hv)
theorem tab_of {w : World} (h : GW w) : Lib.TabIs Tryz.prog w "internal/strconv.uint64pow10" .u64 Lib.pow10Tab := by
 obtain ⟨ty, fr, h1⟩ := h.cells (gi_uint64pow10, gv_uint64pow10) (by simp [globL])
 unfold Lib.TabIs World.var?
 rw [show Tryz.prog.globalNamed "internal/strconv.uint64pow10" = some gi_uint64pow10 by kernel_rfl, Option.bind_some, h1]
 show some gv_uint64pow10.toArray = _
 congr 1
theorem formatInt_a (n : Int) (h1 : -9223372036854775808 ≤ n) (h2 : n ≤ 9223372036854775807) : AC Tryz.prog 78 [.int .i64 n, .int .i64 10] (.str (itB n)) := by
 refine ⟨by kernel_rfl, fun σ w vs hh hr hg => ?_⟩
 obtain ⟨v1, v2, rfl⟩ : ∃ a b, vs = [a, b] := by
  have hl : vs.length = 2 := hr.1
  rcases vs with _ | ⟨a, _ | ⟨b, _ | ⟨c, l⟩⟩⟩ <;> simp at hl
  exact ⟨a, b, rfl⟩
 have e1 : Rel1 σ v1 (.int .i64 n) := hr.2 0 v1 _ rfl rfl
 have e2 : Rel1 σ v2 (.int .i64 10) := hr.2 1 v2 _ rfl rfl
 cases e1
 cases e2
 refine (Tryz.strconv_FormatInt_10 n h1 h2 w (tab_of hg)).mono ?_
 rintro e w' ⟨rfl, k, os, rfl⟩
 have hb := Lib.below_grow w.heap.size w (Nat.le_refl _) k os
 exact ⟨σ, _, rfl, Ext.refl _ _, hh.on hb, hb, .str _⟩
def boolW (b : Bool) : ByteArray := if b = true then wTrue else wFalse
theorem ifmtBool_a (b : Bool) : AC Tryz.prog 109 [.bool b] (.str (boolW b)) := by
 refine AC.enter Tryz.func109 a_istrconv_FormatBool_ok a_istrconv_FormatBool_cb (by rfl) fun E hE => ?_
 show AK _ _ _ [.c b_istrconv_FormatBool] _ _
 rw [b_istrconv_FormatBool]
 refine kW ?_
 refine kC (fun hb => ?_) fun hb => ?_
 ·subst hb
  refine kW ?_
  refine AK.ret ⟨_, rfl, ?_⟩
  rfl
 ·subst hb
  refine kW ?_
  refine AK.ret ⟨_, rfl, ?_⟩
  rfl
theorem fmtBool_a (b : Bool) : AC Tryz.prog 77 [.bool b] (.str (boolW b)) := by
 have h := ifmtBool_a b
 refine AC.enter Tryz.func77 a_strconv_FormatBool_ok a_strconv_FormatBool_cb (by rfl) fun E hE => ?_
 show AK _ _ _ [.c b_strconv_FormatBool] _ _
 rw [b_strconv_FormatBool]
 refine kW ?_
 refine kQ [.v (.str (boolW b))] ?_
 refine kW ?_
 refine AK.ret ⟨_, rfl, ?_⟩
 rfl
inductive Nb : V → Prop where
 | mk {k : Int} {b : Bool} {n : Int} {s : ByteArray} {l : List V} {m : List (ByteArray × V)} (h1 : -9223372036854775808 ≤ n) (h2 : n ≤ 9223372036854775807) (hl : ∀ x ∈ l, Nb x) (hm : ∀ p ∈ m, Nb p.2) : Nb (.mk k b n s l m)
theorem Nb.num {v : V} (h : Nb v) : -9223372036854775808 ≤ v.n ∧ v.n ≤ 9223372036854775807 := by cases h; exact ⟨‹_›, ‹_›⟩
theorem Nb.l {v : V} (h : Nb v) : ∀ x ∈ v.l, Nb x := by cases h; assumption
theorem Nb.m {v : V} (h : Nb v) : ∀ p ∈ v.m, Nb p.2 := by cases h; assumption
theorem good_cases {v : V} (h : v.good) : v = V.null ∨ (∃ b, v = V.bool b) ∨ (∃ n, v = V.int n) ∨ (∃ s, v = V.str s) ∨ (∃ l, v = vList l) ∨ ∃ m, v = vMap m := by
 have hk := (v.good_eq.1 h).1
 obtain ⟨k, b, n, s, l, m⟩ := v
 simp only [V.kind, V.b, V.n, V.s, V.l, V.m] at hk
 unfold kbad at hk
 simp only [Bool.or_eq_false_iff, Bool.and_eq_false_iff, decide_eq_false_iff_not, Decidable.not_not, Nat.not_lt, Nat.le_zero] at hk
 obtain ⟨⟨⟨⟨⟨⟨k0, k5⟩, k1⟩, k2⟩, k3⟩, k4⟩, k6⟩ := hk
 have hl : l.length = 0 → l = [] := List.length_eq_zero_iff.1
 have hm : m.length = 0 → m = [] := List.length_eq_zero_iff.1
 have hcase : k = 0 ∨ k = 1 ∨ k = 2 ∨ k = 3 ∨ k = 4 ∨ k = 5 := by omega
 rcases hcase with rfl | rfl | rfl | rfl | rfl | rfl
 ·refine .inl ?_
  rcases k1 with k1 | rfl
  ·exact absurd k1 (by decide)
  rcases k2 with k2 | rfl
  ·exact absurd k2 (by decide)
  rcases k3 with k3 | rfl
  ·exact absurd k3 (by decide)
  rcases k4 with k4 | k4
  ·exact absurd k4 (by decide)
  rcases k6 with k6 | k6
  ·exact absurd k6 (by decide)
  rw [hl k4, hm k6]
  rfl
 ·refine .inr (.inl ⟨b, ?_⟩)
  rcases k2 with k2 | rfl
  ·exact absurd k2 (by decide)
  rcases k3 with k3 | rfl
  ·exact absurd k3 (by decide)
  rcases k4 with k4 | k4
  ·exact absurd k4 (by decide)
  rcases k6 with k6 | k6
  ·exact absurd k6 (by decide)
  rw [hl k4, hm k6]
  rfl
 ·refine .inr (.inr (.inl ⟨n, ?_⟩))
  rcases k1 with k1 | rfl
  ·exact absurd k1 (by decide)
  rcases k3 with k3 | rfl
  ·exact absurd k3 (by decide)
  rcases k4 with k4 | k4
  ·exact absurd k4 (by decide)
  rcases k6 with k6 | k6
  ·exact absurd k6 (by decide)
  rw [hl k4, hm k6]
  rfl
 ·refine .inr (.inr (.inr (.inl ⟨s, ?_⟩)))
  rcases k1 with k1 | rfl
  ·exact absurd k1 (by decide)
  rcases k2 with k2 | rfl
  ·exact absurd k2 (by decide)
  rcases k4 with k4 | k4
  ·exact absurd k4 (by decide)
  rcases k6 with k6 | k6
  ·exact absurd k6 (by decide)
  rw [hl k4, hm k6]
  rfl
 ·refine .inr (.inr (.inr (.inr (.inl ⟨l, ?_⟩))))
  rcases k1 with k1 | rfl
  ·exact absurd k1 (by decide)
  rcases k2 with k2 | rfl
  ·exact absurd k2 (by decide)
  rcases k3 with k3 | rfl
  ·exact absurd k3 (by decide)
  rcases k6 with k6 | k6
  ·exact absurd k6 (by decide)
  rw [hm k6]
  rfl
 ·refine .inr (.inr (.inr (.inr (.inr ⟨m, ?_⟩))))
  rcases k1 with k1 | rfl
  ·exact absurd k1 (by decide)
  rcases k2 with k2 | rfl
  ·exact absurd k2 (by decide)
  rcases k3 with k3 | rfl
  ·exact absurd k3 (by decide)
  rcases k4 with k4 | k4
  ·exact absurd k4 (by decide)
  rw [hl k4]
  rfl
theorem leafL {l : List V} (h : (vList l).leaf = true) : l = [] := by
 rw [leaf_iff] at h
 exact List.length_eq_zero_iff.1 (by have : l.length + ([] : List (ByteArray × V)).length = 0 := h; simpa using this)
theorem leafM {m : List (ByteArray × V)} (h : (vMap m).leaf = true) : m = [] := by
 rw [leaf_iff] at h
 exact List.length_eq_zero_iff.1 (by have : ([] : List V).length + m.length = 0 := h; simpa using this)
theorem fit_all : ∀ (N : Nat) (v : V), v.size ≤ N → v.good → Nb v → Fit v
 | 0, v, h, _, _ => by have := v.size_pos; omega
 | N + 1, v, h, hg, hn => by
  have ih := fit_all N
  rcases good_cases hg with rfl | ⟨b, rfl⟩ | ⟨n, rfl⟩ | ⟨s, rfl⟩ | ⟨l, rfl⟩ | ⟨m, rfl⟩
  ·exact .leaf rfl leaf_null
  ·exact .leaf rfl (leaf_bool b)
  ·exact .leaf rfl (leaf_int n hn.num.1 hn.num.2)
  ·exact .leaf rfl (leaf_str s)
  ·by_cases hl : l = []
   ·subst hl
    exact .leaf rfl leaf_list
   ·rw [vList_size] at h
    exact .list hl fun x hx => ih x (by have := mem_sizeL hx; omega) (good_l (v := vList l) hg hx) (hn.l x hx)
  ·by_cases hm : m = []
   ·subst hm
    exact .leaf rfl leaf_map
   ·rw [vMap_size] at h
    exact .map hm (rises_all ((vMap m).good_eq.1 hg).2.2.2.2) fun p hp => ih p.2 (by have := mem_sizeM hp; omega) (good_m (v := vMap m) hg hp) (hn.m p hp)
def Gd (v : V) : Prop := v.good ∧ Nb v
theorem Gd.text {v : V} (h : Gd v) : v.s.size ≤ 65536 := by
 have := (v.good_eq.1 h.1).2.1
 unfold textB at this
 rw [Bool.and_eq_true, decide_eq_true_eq] at this
 exact this.2
theorem Gd.keys {v : V} (h : Gd v) : ∀ p ∈ v.m, Gd p.2 ∧ p.1.size ≤ 256 := fun p hp => by
 have := ((goodM_iff _).1 (v.good_eq.1 h.1).2.2.2.1 p hp)
 refine ⟨⟨this.2, h.2.m p hp⟩, ?_⟩
 have hk := this.1
 unfold keyB at hk
 simp only [Bool.and_eq_true, decide_eq_true_eq] at hk
 exact hk.2.2
theorem Gd.parts {v : V} (h : Gd v) : ∀ x ∈ v.l, Gd x := fun x hx => ⟨good_l h.1 hx, h.2.l x hx⟩
theorem printAll_a (v : V) (hG : Gd v) (hl : v.leaf = true) : AC Tryz.prog 44 [.agg [.int .i64 (v).kind, .bool (v).b, .int .i64 (v).n, .str (v).s, .lst .any 6 (rowsV (v).l), .lst .any 7 (rowsM (v).m)]] (.str (prB v)) := by
 have ht := hG.text
 have hn := hG.2.num
 rcases good_cases hG.1 with rfl | ⟨b, rfl⟩ | ⟨n, rfl⟩ | ⟨s, rfl⟩ | ⟨l, rfl⟩ | ⟨m, rfl⟩
 ·skip
  refine kE Tryz.func44 a_scalar_Print_ok a_scalar_Print_cb fun E hE => ?_
  refine kW ?_
  refine kC (fun hb => ?_) fun hb => ?_
  ·cases hb
  refine kW ?_
  refine kC (fun hb => ?_) fun hb => ?_
  ·cases hb
  refine kW ?_
  refine kC (fun hb => ?_) fun hb => ?_
  ·cases hb
  refine kW ?_
  refine kC (fun hb => ?_) fun hb => ?_
  ·cases hb
  refine kW ?_
  refine kC (fun hb => ?_) fun hb => ?_
  ·cases hb
  refine kW ?_
  refine AK.ret ⟨_, rfl, ?_⟩
  rfl
 ·have h := fmtBool_a b
  refine kE Tryz.func44 a_scalar_Print_ok a_scalar_Print_cb fun E hE => ?_
  refine kW ?_
  refine kC (fun hb => ?_) fun hb => ?_
  ·refine kW ?_
   refine kQ [.v (.str (boolW b))] ?_
   refine kW ?_
   refine AK.ret ⟨_, rfl, ?_⟩
   rfl
  ·cases hb
 ·have h := formatInt_a n hn.1 hn.2
  refine kE Tryz.func44 a_scalar_Print_ok a_scalar_Print_cb fun E hE => ?_
  refine kW ?_
  refine kC (fun hb => ?_) fun hb => ?_
  ·cases hb
  refine kW ?_
  refine kC (fun hb => ?_) fun hb => ?_
  ·refine kW ?_
   refine kQ [.v (.str (itB n))] ?_
   refine kW ?_
   refine AK.ret ⟨_, rfl, ?_⟩
   rfl
  ·cases hb
 ·exact print_a s (by have : s.size ≤ 65536 := ht; omega)
 ·obtain rfl := leafL hl
  refine kE Tryz.func44 a_scalar_Print_ok a_scalar_Print_cb fun E hE => ?_
  refine kW ?_
  refine kC (fun hb => ?_) fun hb => ?_
  ·cases hb
  refine kW ?_
  refine kC (fun hb => ?_) fun hb => ?_
  ·cases hb
  refine kW ?_
  refine kC (fun hb => ?_) fun hb => ?_
  ·cases hb
  refine kW ?_
  refine kC (fun hb => ?_) fun hb => ?_
  ·refine kW ?_
   refine AK.ret ⟨_, rfl, ?_⟩
   rfl
  ·cases hb
 ·obtain rfl := leafM hl
  refine kE Tryz.func44 a_scalar_Print_ok a_scalar_Print_cb fun E hE => ?_
  refine kW ?_
  refine kC (fun hb => ?_) fun hb => ?_
  ·cases hb
  refine kW ?_
  refine kC (fun hb => ?_) fun hb => ?_
  ·cases hb
  refine kW ?_
  refine kC (fun hb => ?_) fun hb => ?_
  ·cases hb
  refine kW ?_
  refine kC (fun hb => ?_) fun hb => ?_
  ·cases hb
  refine kW ?_
  refine kC (fun hb => ?_) fun hb => ?_
  ·refine kW ?_
   refine AK.ret ⟨_, rfl, ?_⟩
   rfl
  ·cases hb
theorem refWord_a (s : ByteArray) (hs : s.size ≤ 140737488355328) : AC Tryz.prog 29 [.agg [.int .i64 3, .bool false, .int .i64 0, .str s, .lst .any 6 [], .lst .any 7 []]] (.str (wordB s)) := by
 refine kE Tryz.func29 a_ref04_Print_ok a_ref04_Print_cb fun E hE => ?_
 refine kW ?_
 refine kC (fun hb => ?_) fun hb => ?_
 ·cases hb
 refine kW ?_
 refine kC (fun hb => ?_) fun hb => ?_
 ·cases hb
 refine kW ?_
 refine kC (fun hb => ?_) fun hb => ?_
 ·refine kW ?_
  refine kP [.v (.bool (bareB s))] ?_ ?_
  ·((repeat' apply And.intro) <;> first | exact kD | (intro hgd; refine ⟨?_, kG⟩; (repeat' apply And.intro) <;> first | exact kD | skip) | skip)
   all_goals exact refBare_a s hs
  refine kC (fun hb => ?_) fun hb => ?_
  ·refine kW ?_
   refine AK.ret ⟨_, rfl, ?_⟩
   rw [wordB, if_pos hb]
   rfl
  ·refine kW ?_
   refine kP [.v (.str (quoteB s))] ?_ ?_
   ·((repeat' apply And.intro) <;> first | exact kD | (intro hgd; refine ⟨?_, kG⟩; (repeat' apply And.intro) <;> first | exact kD | skip) | skip)
    all_goals exact refQuote_a s hs
   refine kW ?_
   refine AK.ret ⟨_, rfl, ?_⟩
   rw [wordB, if_neg (by rw [hb]; simp)]
   rfl
 ·cases hb
theorem refPrintAll_a (v : V) (hG : Gd v) (hl : v.leaf = true) : AC Tryz.prog 29 [.agg [.int .i64 (v).kind, .bool (v).b, .int .i64 (v).n, .str (v).s, .lst .any 6 (rowsV (v).l), .lst .any 7 (rowsM (v).m)]] (.str (prB v)) := by
 have ht := hG.text
 have hn := hG.2.num
 rcases good_cases hG.1 with rfl | ⟨b, rfl⟩ | ⟨n, rfl⟩ | ⟨s, rfl⟩ | ⟨l, rfl⟩ | ⟨m, rfl⟩
 ·skip
  refine kE Tryz.func29 a_ref04_Print_ok a_ref04_Print_cb fun E hE => ?_
  refine kW ?_
  refine kC (fun hb => ?_) fun hb => ?_
  ·cases hb
  refine kW ?_
  refine kC (fun hb => ?_) fun hb => ?_
  ·cases hb
  refine kW ?_
  refine kC (fun hb => ?_) fun hb => ?_
  ·cases hb
  refine kW ?_
  refine kC (fun hb => ?_) fun hb => ?_
  ·cases hb
  refine kW ?_
  refine kC (fun hb => ?_) fun hb => ?_
  ·cases hb
  refine kW ?_
  refine AK.ret ⟨_, rfl, ?_⟩
  rfl
 ·skip
  refine kE Tryz.func29 a_ref04_Print_ok a_ref04_Print_cb fun E hE => ?_
  refine kW ?_
  refine kC (fun hb => ?_) fun hb => ?_
  ·refine kW ?_
   refine AK.cond (by rfl) (fun hc => ?_) (fun hc => ?_)
   ·have hc : b = true := hc
    subst hc
    refine kW ?_
    refine AK.ret ⟨_, rfl, ?_⟩
    rfl
   ·have hc : b = false := hc
    subst hc
    refine kW ?_
    refine AK.ret ⟨_, rfl, ?_⟩
    rfl
  ·cases hb
 ·have h := digits_a n hn.1 hn.2
  refine kE Tryz.func29 a_ref04_Print_ok a_ref04_Print_cb fun E hE => ?_
  refine kW ?_
  refine kC (fun hb => ?_) fun hb => ?_
  ·cases hb
  refine kW ?_
  refine kC (fun hb => ?_) fun hb => ?_
  ·refine kW ?_
   refine kQ [.v (.str (itB n))] ?_
   refine kW ?_
   refine AK.ret ⟨_, rfl, ?_⟩
   rfl
  ·cases hb
 ·exact refWord_a s (by have : s.size ≤ 65536 := ht; omega)
 ·obtain rfl := leafL hl
  refine kE Tryz.func29 a_ref04_Print_ok a_ref04_Print_cb fun E hE => ?_
  refine kW ?_
  refine kC (fun hb => ?_) fun hb => ?_
  ·cases hb
  refine kW ?_
  refine kC (fun hb => ?_) fun hb => ?_
  ·cases hb
  refine kW ?_
  refine kC (fun hb => ?_) fun hb => ?_
  ·cases hb
  refine kW ?_
  refine kC (fun hb => ?_) fun hb => ?_
  ·refine kW ?_
   refine AK.ret ⟨_, rfl, ?_⟩
   rfl
  ·cases hb
 ·obtain rfl := leafM hl
  refine kE Tryz.func29 a_ref04_Print_ok a_ref04_Print_cb fun E hE => ?_
  refine kW ?_
  refine kC (fun hb => ?_) fun hb => ?_
  ·cases hb
  refine kW ?_
  refine kC (fun hb => ?_) fun hb => ?_
  ·cases hb
  refine kW ?_
  refine kC (fun hb => ?_) fun hb => ?_
  ·cases hb
  refine kW ?_
  refine kC (fun hb => ?_) fun hb => ?_
  ·cases hb
  refine kW ?_
  refine kC (fun hb => ?_) fun hb => ?_
  ·refine kW ?_
   refine AK.ret ⟨_, rfl, ?_⟩
   rfl
  ·cases hb
end Go.Proofs.YtgekcnpfflhpkaaGreatDoor
namespace Go.Proofs.YtgekcnpfflhpkaaGreatDoor
open Go.ChangeShapes Go.WideShapes Go.ChangeAt Go.RowKit Go.Deep
theorem val_of_trodN {H : Type} {enc : TypeId × Value → H} {w : World} {base : Nat} {spare : Nat → Bool} {held : Bool} : ∀ (n : Nat) (cs : List Value) (y : DataW H × List MemPlace),
  DataW.trod enc Tryz.prog w base spare held n 28 cs = some y → WtOk Tryz.prog 28 y.1 → ∃ v : V, RelL (σW w) cs (cellsV v) ∧ v.sb ∧ Nb v := by
 intro n
 induction n using Nat.strongRecOn with
 | _ n ih =>
  intro cs y h hw
  obtain ⟨xs, m, hm, hy, hl, hxl, hf⟩ := DataW.trod_struct Tryz.underlying28 h
  rw [cellsTV] at hl
  obtain ⟨c0, c1, c2, c3, c4, c5, rfl⟩ := list6 hl
  obtain ⟨x0, x1, x2, x3, x4, x5, rfl⟩ := list6 (show xs.length = 6 from hxl)
  rw [hy] at hw
  have f0 : DataW.trod enc Tryz.prog w base spare held m 3 (List.take (Tryz.prog.cellsOf 3) (List.drop 0 [c0, c1, c2, c3, c4, c5])) = some x0 := hf 0 _ rfl
  have f1 : DataW.trod enc Tryz.prog w base spare held m 4 (List.take (Tryz.prog.cellsOf 4) (List.drop 1 [c0, c1, c2, c3, c4, c5])) = some x1 := hf 1 _ rfl
  have f2 : DataW.trod enc Tryz.prog w base spare held m 2 (List.take (Tryz.prog.cellsOf 2) (List.drop 2 [c0, c1, c2, c3, c4, c5])) = some x2 := hf 2 _ rfl
  have f3 : DataW.trod enc Tryz.prog w base spare held m 9 (List.take (Tryz.prog.cellsOf 9) (List.drop 3 [c0, c1, c2, c3, c4, c5])) = some x3 := hf 3 _ rfl
  have f4 : DataW.trod enc Tryz.prog w base spare held m 25 (List.take (Tryz.prog.cellsOf 25) (List.drop 4 [c0, c1, c2, c3, c4, c5])) = some x4 := hf 4 _ rfl
  have f5 : DataW.trod enc Tryz.prog w base spare held m 26 (List.take (Tryz.prog.cellsOf 26) (List.drop 5 [c0, c1, c2, c3, c4, c5])) = some x5 := hf 5 _ rfl
  have w3 : WtOk Tryz.prog 9 x3.1 := WtOk.part Tryz.underlying28 hw (j := 3) rfl rfl
  have w4 : WtOk Tryz.prog 25 x4.1 := WtOk.part Tryz.underlying28 hw (j := 4) rfl rfl
  have w5 : WtOk Tryz.prog 26 x5.1 := WtOk.part Tryz.underlying28 hw (j := 5) rfl rfl
  simp only [cellsI, cellsI64, cellsB, cellsS, cellsLV, cellsLP, List.drop_succ_cons, List.drop_zero, List.take_succ_cons, List.take_zero] at f0 f1 f2 f3 f4 f5
  obtain ⟨k, e0, _⟩ := DataW.trod_int Tryz.underlying3 f0
  obtain ⟨b, e1, _⟩ := DataW.trod_bool Tryz.underlying4 f1
  obtain ⟨i, e2, _, wfi⟩ := DataW.trod_int Tryz.underlying2 f2
  obtain ⟨s, e3, hx3, _⟩ := DataW.trod_string Tryz.underlying9 f3
  injection e0 with e0; injection e1 with e1; injection e2 with e2; injection e3 with e3
  subst e0 e1 e2 e3
  rw [hx3] at w3
  obtain ⟨l, hl1, hl2⟩ := sl_of_trodW (R := fun cs (v : V) => RelL (σW w) cs (cellsV v) ∧ v.sb ∧ Nb v) Tryz.underlying25 cellsTV (by decide) f4 w4 (fun n' cs y hn h hw => ih n' (by omega) cs y h hw)
  obtain ⟨mm, hm1, hm2⟩ := sl_of_trodW (R := fun cs (p : ByteArray × V) => RelL (σW w) cs (.str p.1 :: cellsV p.2) ∧ p.1.size ≤ 140737488355328 ∧ p.2.sb ∧ Nb p.2) Tryz.underlying26 cellsTP (by decide) f5 w5 (fun n' cs y hn h hw => by
   obtain ⟨xs, m', hm', hy, hl, hxl, hf⟩ := DataW.trod_struct Tryz.underlying44 h
   rw [cellsTP] at hl
   obtain ⟨d0, d1, d2, d3, d4, d5, d6, rfl⟩ := list7 hl
   obtain ⟨z0, z1, rfl⟩ : ∃ a b, xs = [a, b] := by
    have hxl : xs.length = 2 := hxl
    rcases xs with _ | ⟨a, _ | ⟨b, _ | ⟨c, l⟩⟩⟩ <;> simp at hxl
    exact ⟨a, b, rfl⟩
   rw [hy] at hw
   have g0 : DataW.trod enc Tryz.prog w base spare held m' 9 (List.take (Tryz.prog.cellsOf 9) (List.drop 0 [d0, d1, d2, d3, d4, d5, d6])) = some z0 := hf 0 _ rfl
   have g1 : DataW.trod enc Tryz.prog w base spare held m' 28 (List.take (Tryz.prog.cellsOf 28) (List.drop 1 [d0, d1, d2, d3, d4, d5, d6])) = some z1 := hf 1 _ rfl
   have v0 : WtOk Tryz.prog 9 z0.1 := WtOk.part Tryz.underlying44 hw (j := 0) rfl rfl
   have v1 : WtOk Tryz.prog 28 z1.1 := WtOk.part Tryz.underlying44 hw (j := 1) rfl rfl
   simp only [cellsS, cellsTV, List.drop_succ_cons, List.drop_zero, List.take_succ_cons, List.take_zero] at g0 g1
   obtain ⟨y, e0, hz0, _⟩ := DataW.trod_string Tryz.underlying9 g0
   injection e0 with e0
   subst e0
   rw [hz0] at v0
   obtain ⟨v, hv1, hv2, hv3⟩ := ih m' (by omega) _ z1 g1 v1
   exact ⟨(y, v), .cons (.str y) hv1, str_wt v0, hv2, hv3⟩)
  rw [bytesTV] at hl2
  rw [bytesTP] at hm2
  have h47 := reach47
  refine ⟨.mk k b i s l mm, ?_, ?_, ?_⟩
  ·rw [cellsV]
   refine .cons (.int _ _) (.cons (.bool _) (.cons (.int _ _) (.cons (.str _) (.cons ?_ (.cons ?_ .nil)))))
   ·rw [rowsV_map]; exact rel_of_sl hl1 cellsV fun cs x h => h.1
   ·rw [rowsM_map]; exact rel_of_sl hm1 (fun p => .str p.1 :: cellsV p.2) fun cs x h => h.1
  ·rw [V.sb]
   refine ⟨str_wt w3, ⟨by omega, by omega⟩, (sbL_iff l).2 fun x hx => ?_, (sbM_iff mm).2 fun p hp => ?_⟩
   ·obtain ⟨cs, h⟩ := sl_all hl1 hx; exact h.2.1
   ·obtain ⟨cs, h⟩ := sl_all hm1 hp; exact ⟨h.2.1, h.2.2.1⟩
  ·have hw2 : -9223372036854775808 ≤ i ∧ i ≤ 9223372036854775807 := by simpa [Lit.wf, IntKind.min, IntKind.max, IntKind.signed, IntKind.bits] using wfi
   exact .mk hw2.1 hw2.2 (fun x hx => by obtain ⟨cs, h⟩ := sl_all hl1 hx; exact h.2.2) (fun p hp => by obtain ⟨cs, h⟩ := sl_all hm1 hp; exact h.2.2.2)
theorem val_argN {H : Type} {enc : TypeId × Value → H} {W : World} {base : Nat} {spare : Nat → Bool} {held : Bool} {v : Value} {d : DataW H} {p : List MemPlace} (hv : ∃ cs : Array Value, v = .agg cs) (h : DataW.Trod enc Tryz.prog W base spare held 28 v d p) (hw : WtOk Tryz.prog 28 d) :
  ∃ u : V, RelP (σW W) v (.agg [.int .i64 (u).kind, .bool (u).b, .int .i64 (u).n, .str (u).s, .lst .any 6 (rowsV (u).l), .lst .any 7 (rowsM (u).m)]) ∧ u.sb ∧ Nb u := by
 obtain ⟨cs, rfl⟩ := hv
 obtain ⟨fuel, hf⟩ := h
 obtain ⟨u, h1, h2, h3⟩ := val_of_trodN fuel _ _ hf hw
 rw [cellsV_eq] at h1
 exact ⟨u, ⟨cs.toList, by simp, h1⟩, h2, h3⟩
end Go.Proofs.YtgekcnpfflhpkaaGreatDoor
namespace Go.Proofs.YtgekcnpfflhpkaaGreatDoor
open Go.RowKit
theorem prB_size (v : V) (hn : Nb v) : (prB v).size ≤ 30 + 2 * v.s.size := by
 have h1 : (itB v.n).size ≤ 21 := Lib.itoa_length_le v.n hn.num.1 hn.num.2
 have h2 := wordB_size v.s
 have e1 : wTrue.size = 4 := rfl
 have e2 : wFalse.size = 5 := rfl
 have e3 : wNull.size = 4 := rfl
 have e4 : (⟨#[91, 93]⟩ : ByteArray).size = 2 := rfl
 have e5 : (⟨#[123, 125]⟩ : ByteArray).size = 2 := rfl
 unfold prB
 repeat' split
 all_goals omega
theorem w_pos (v : V) : 1 + v.s.size ≤ v.w := by rw [V.w_eq]; omega
theorem lay_bound : ∀ (N : Nat) (v : V) (k : Nat), v.size ≤ N → Nb v → k + 2 * v.size ≤ 12200 → (v.lay wordB prB k).size + 20000 ≤ v.w * 20000
 | 0, v, k, h, _, _ => by have := v.size_pos; omega
 | N + 1, v, k, h, hn, hk => by
  have ih := lay_bound N
  have hsz := v.size_eq
  have htail : ∀ x : V, x.size ≤ N → Nb x → k + 2 + 2 * x.size ≤ 12200 → (x.tail wordB prB k).size ≤ x.w * 20000 - 12300 := fun x hx hnx hkx => by
   have hw := w_pos x
   have z1 : (⟨#[32]⟩ : ByteArray).size = 1 := rfl
   have z2 : (⟨#[10]⟩ : ByteArray).size = 1 := rfl
   unfold V.tail
   split
   ·have := prB_size x hnx
    rw [ByteArray.size_append, ByteArray.size_append]
    omega
   ·have := ih x (k + 2) hx hnx (by omega)
    rw [ByteArray.size_append]
    omega
  have key1 : ∀ l : List V, (∀ x ∈ l, x.size ≤ N ∧ Nb x ∧ k + 2 + 2 * x.size ≤ 12200) → (layL wordB prB l k).size ≤ wL l * 20000 := by
   intro l
   induction l with
   | nil => intro _; rw [layL]; exact Nat.zero_le _
   | cons x l ih2 =>
    intro hl
    obtain ⟨a, b, c⟩ := hl x (by simp)
    have h1 := htail x a b c
    have h2 := ih2 fun y hy => hl y (by simp [hy])
    have hw := w_pos x
    have z1 : (⟨#[45]⟩ : ByteArray).size = 1 := rfl
    rw [layL_cons, ByteArray.size_append, ByteArray.size_append, ByteArray.size_append, padB_size, wL]
    omega
  have key2 : ∀ m : List (ByteArray × V), (∀ p ∈ m, p.2.size ≤ N ∧ Nb p.2 ∧ k + 2 + 2 * p.2.size ≤ 12200) → (layM wordB prB m k).size ≤ wM m * 20000 := by
   intro m
   induction m with
   | nil => intro _; rw [layM]; exact Nat.zero_le _
   | cons p m ih2 =>
    intro hm
    obtain ⟨y, x⟩ := p
    obtain ⟨a, b, c⟩ := hm (y, x) (by simp)
    have h1 := htail x a b c
    have h2 := ih2 fun q hq => hm q (by simp [hq])
    have h3 := wordB_size y
    have hw := w_pos x
    have z1 : (⟨#[58]⟩ : ByteArray).size = 1 := rfl
    rw [layM_cons, ByteArray.size_append, ByteArray.size_append, ByteArray.size_append, ByteArray.size_append, padB_size, wM]
    omega
  have h1 := key1 v.l fun x hx => by have := mem_sizeL hx; exact ⟨by omega, hn.l x hx, by omega⟩
  have h2 := key2 v.m fun p hp => by have := mem_sizeM hp; exact ⟨by omega, hn.m p hp, by omega⟩
  rw [V.lay_eq, ByteArray.size_append, V.w_eq]
  omega
theorem padB_snoc (i : Nat) : padB i ++ (⟨#[32]⟩ : ByteArray) = padB (i + 1) := ba_ext (by rw [ba_app_list]; show List.replicate i 32 ++ [32] = List.replicate (i + 1) 32; rw [List.replicate_succ'])
theorem blanks_a (k : Nat) (hk : k ≤ 100000) : AC Tryz.prog 62 [.int .i64 k] (.str (padB k)) := by
 refine kE Tryz.func62 a_ref05_blanks_ok a_ref05_blanks_cb fun E hE => ?_
 refine kW ?_
 refine AK.loopI (fun i : Nat => (frOf [(0, .int .i64 k), (3, .str (padB i)), (4, .int .i64 i)], ⟨boxOf [], fun _ => 0⟩)) (fun i => i ≤ k) (fun i => k - i) 0 (by omega) (Weak.intro ⟨kI, kI, kI, trivial⟩ trivial rfl rfl) fun i hi => ?_
 have hp := padB_size i
 have hs := padB_snoc i
 have z : (⟨#[32]⟩ : ByteArray).size = 1 := rfl
 refine kW ?_
 refine kC (fun hb => ?_) fun hb => ?_
 ·have hlt : i < k := by
   have : (i : Int) < (k : Int) := by simpa using hb
   omega
  refine kW ?_
  refine kQ [] ?_
  refine kW ?_
  exact AK.lp ⟨i + 1, by omega, Weak.intro ⟨kI, ⟨_, rfl, .of_eq (congrArg AV.str hs)⟩, kU, trivial⟩ trivial rfl rfl, by omega⟩
 ·have hlt : i = k := by
   have : ¬ (i : Int) < (k : Int) := by simpa using hb
   omega
  subst hlt
  refine AK.exit rfl ?_
  refine kW ?_
  refine AK.ret ⟨_, rfl, ?_⟩
  rfl
theorem leaf_dec (v : V) : (decide (((rowsV v.l).length : Int) = 0) && decide (((rowsM v.m).length : Int) = 0)) = v.leaf := by
 rw [rowsV_len, rowsM_len, V.leaf]
 cases v.l <;> cases v.m <;> simp <;> omega
theorem empty_a (v : V) : AC Tryz.prog 28 [.agg [.int .i64 (v).kind, .bool (v).b, .int .i64 (v).n, .str (v).s, .lst .any 6 (rowsV (v).l), .lst .any 7 (rowsM (v).m)]] (.bool v.leaf) := by
 have h := leaf_dec v
 refine kE Tryz.func28 a_ref05_empty_ok a_ref05_empty_cb fun E hE => ?_
 refine kW ?_
 refine kQ [] ?_
 refine kW ?_
 refine AK.ret ⟨_, rfl, ?_⟩
 exact congrArg AV.bool h
theorem key_a (y : ByteArray) (hy : y.size ≤ 1000000) : AC Tryz.prog 64 [.str y] (.str (wordB y)) := by
 have h := refWord_a y (by omega)
 refine kE Tryz.func64 a_ref05_key_ok a_ref05_key_cb fun E hE => ?_
 refine kW ?_
 refine kQ [.v (.str (wordB y))] ?_
 refine kW ?_
 refine AK.ret ⟨_, rfl, ?_⟩
 rfl
def LayOk (N : Nat) : Prop := ∀ (v : V) (k : Nat), v.size ≤ N → Gd v → v.w ≤ 6000 → k + 2 * v.size ≤ 12200 → AC Tryz.prog 30 [.agg [.int .i64 (v).kind, .bool (v).b, .int .i64 (v).n, .str (v).s, .lst .any 6 (rowsV (v).l), .lst .any 7 (rowsM (v).m)], .int .i64 k] (.str (v.lay wordB prB k))
theorem tail_ra {N : Nat} (hN : LayOk N) (x : V) (k : Nat) (hx : x.size ≤ N) (hG : Gd x) (hw : x.w ≤ 6000) (hk : k + 2 + 2 * x.size ≤ 12200) : AC Tryz.prog 63 [.agg [.int .i64 (x).kind, .bool (x).b, .int .i64 (x).n, .str (x).s, .lst .any 6 (rowsV (x).l), .lst .any 7 (rowsM (x).m)], .int .i64 k] (.str (x.tail wordB prB k)) := by
 have hE := empty_a x
 have hps := prB_size x hG.2
 have ht := hG.text
 have hb1 := lay_bound x.size x (k + 2) (Nat.le_refl _) hG.2 (by omega)
 have z1 : (⟨#[32]⟩ : ByteArray).size = 1 := rfl
 have z2 : (⟨#[10]⟩ : ByteArray).size = 1 := rfl
 have z3 : ((⟨#[32]⟩ : ByteArray) ++ prB x).size = 1 + (prB x).size := by rw [ByteArray.size_append]; rfl
 have hlay := hN x (k + 2) hx hG hw (by omega)
 have hP := fun h => refPrintAll_a x hG h
 have hw2 : IntKind.i64.wrap ((k : Int) + 2) = ((k + 2 : Nat) : Int) := by rw [wrap_in (by omega) (by omega)]; omega
 unfold V.tail
 refine kE Tryz.func63 a_ref05_tail_ok a_ref05_tail_cb fun E hE => ?_
 refine kW ?_
 refine kQ [.v (.bool x.leaf)] ?_
 refine kC (fun hb => ?_) fun hb => ?_
 ·have hP := hP hb
  rw [if_pos hb]
  refine kW ?_
  refine kQ [.v (.str (prB x))] ?_
  refine kW ?_
  refine AK.ret ⟨_, rfl, ?_⟩
  rfl
 ·rw [if_neg (by rw [hb]; simp)]
  refine kW ?_
  refine kP [.v (.str (x.lay wordB prB (k + 2)))] ?_ ?_
  ·((repeat' apply And.intro) <;> first | exact kD | (intro hgd; refine ⟨?_, kG⟩; (repeat' apply And.intro) <;> first | exact kD | skip) | skip)
   all_goals first | (rw [hw2]; exact hlay) | skip
  refine kW ?_
  refine AK.ret ⟨_, rfl, ?_⟩
  rfl
theorem wL_at {l : List V} {x : V} (h : x ∈ l) : x.w ≤ wL l := by
 induction l with
 | nil => cases h
 | cons y l ih =>
  rw [wL]
  rcases List.mem_cons.1 h with rfl | h
  ·omega
  ·have := ih h; omega
theorem wM_at {m : List (ByteArray × V)} {p : ByteArray × V} (h : p ∈ m) : p.2.w ≤ wM m := by
 induction m with
 | nil => cases h
 | cons q m ih =>
  obtain ⟨y, x⟩ := q
  rw [wM]
  rcases List.mem_cons.1 h with rfl | h
  ·simp only; omega
  ·have := ih h; omega
set_option maxHeartbeats 1000000 in
theorem lay_step {N : Nat} (hN : LayOk N) : LayOk (N + 1) := fun v k hs hG hw hk => by
 have hsz := v.size_eq
 have hwe := V.w_eq v
 have hbd := lay_bound v.size v k (Nat.le_refl _) hG.2 hk
 rw [V.lay_eq, ByteArray.size_append] at hbd
 rw [V.lay_eq]
 have hbl := blanks_a k (by omega)
 have hpz := padB_size k
 have hll := len_le_sizeL v.l
 have hml := len_le_sizeM v.m
 refine kE Tryz.func30 a_ref05_lay_ok a_ref05_lay_cb fun E hE => ?_
 refine kW ?_
 refine AK.loopI (fun i : Nat => (frOf [(1, .int .i64 k), (2, .ptr 2 0), (5, .str (layL wordB prB (v.l.take i) k)), (6, .int .i64 i)], ⟨boxOf [(2, [.int .i64 (v).kind, .bool (v).b, .int .i64 (v).n, .str (v).s, .lst .any 6 (rowsV (v).l), .lst .any 7 (rowsM (v).m)], false)], fun _ => 0⟩)) (fun i => i ≤ v.l.length) (fun i => v.l.length - i) 0 (by omega) (Weak.intro ⟨kI, kI, ⟨_, rfl, .of_eq (congrArg AV.str (by rw [List.take_zero, layL]))⟩, kI, trivial⟩ ⟨kJ, trivial⟩ rfl rfl) fun i hi => ?_
 refine kW ?_
 rw [rowsV_len]
 refine kC (fun hb => ?_) fun hb => ?_
 ·have hlt : i < v.l.length := by
   have : (i : Int) < (v.l.length : Int) := by simpa using hb
   omega
  obtain ⟨x, hg⟩ : ∃ x, v.l[i]? = some x := ⟨_, List.getElem?_eq_getElem hlt⟩
  have hx := List.mem_of_getElem? hg
  have hxs := mem_sizeL hx
  have hxw := wL_at hx
  have hta := tail_ra hN x k (by omega) (hG.parts x hx) (by omega) (by omega)
  have htk := layL_take (w := wordB) (pr := prB) hg k
  have hle := layL_le (w := wordB) (pr := prB) v.l (i + 1) k
  have hrow := rowsV_at hg
  have hlen : i < (rowsV v.l).length := by rw [rowsV_len]; exact hlt
  have z1 : (⟨#[45]⟩ : ByteArray).size = 1 := rfl
  have ztk := congrArg ByteArray.size htk
  rw [ByteArray.size_append, ByteArray.size_append, ByteArray.size_append] at ztk
  have y1 : (layL wordB prB (v.l.take i) k ++ padB k).size = (layL wordB prB (v.l.take i) k).size + (padB k).size := ByteArray.size_append ..
  have y2 : (layL wordB prB (v.l.take i) k ++ padB k ++ ⟨#[45]⟩).size = (layL wordB prB (v.l.take i) k).size + (padB k).size + 1 := by rw [ByteArray.size_append, ByteArray.size_append]; rfl
  clear hb
  refine kW ?_
  refine kP [.v (.str (padB k)), .c [.int .i64 (x).kind, .bool (x).b, .int .i64 (x).n, .str (x).s, .lst .any 6 (rowsV (x).l), .lst .any 7 (rowsM (x).m)], .v (.str (x.tail wordB prB k))] ?_ ?_
  ·((repeat' apply And.intro) <;> first | exact kD | (intro hgd; refine ⟨?_, kG⟩; (repeat' apply And.intro) <;> first | exact kD | skip) | skip)
   all_goals first | exact hrow | exact hta | skip
  refine kW ?_
  exact AK.lp ⟨i + 1, by omega, Weak.intro ⟨kI, kI, ⟨_, rfl, .of_eq (congrArg AV.str (by rw [htk]; simp only [ByteArray.append_assoc]))⟩, kU, trivial⟩ ⟨kJ, trivial⟩ rfl rfl, by omega⟩
 ·have hlt : i = v.l.length := by
   have : ¬ (i : Int) < (v.l.length : Int) := by simpa using hb
   omega
  subst hlt
  rw [List.take_length]
  clear hb hi
  refine AK.exit rfl ?_
  refine kW ?_
  refine AK.loopI (fun i : Nat => (frOf [(1, .int .i64 k), (2, .ptr 2 0), (5, .str (layL wordB prB v.l k ++ layM wordB prB (v.m.take i) k)), (7, .int .i64 i)], ⟨boxOf [(2, [.int .i64 (v).kind, .bool (v).b, .int .i64 (v).n, .str (v).s, .lst .any 6 (rowsV (v).l), .lst .any 7 (rowsM (v).m)], false)], fun _ => 0⟩)) (fun i => i ≤ v.m.length) (fun i => v.m.length - i) 0 (by omega) (Weak.intro ⟨kI, kI, ⟨_, rfl, .of_eq (congrArg AV.str (by rw [List.take_zero, layM]; exact ByteArray.append_empty.symm))⟩, kI, trivial⟩ ⟨kJ, trivial⟩ rfl rfl) fun i hi => ?_
  refine kW ?_
  rw [rowsM_len]
  refine kC (fun hb => ?_) fun hb => ?_
  ·have hlt : i < v.m.length := by
    have : (i : Int) < (v.m.length : Int) := by simpa using hb
    omega
   obtain ⟨p, hg⟩ : ∃ x, v.m[i]? = some x := ⟨_, List.getElem?_eq_getElem hlt⟩
   obtain ⟨y, x⟩ := p
   have hx := List.mem_of_getElem? hg
   have hxs := mem_sizeM hx
   have hxw := wM_at hx
   obtain ⟨hGx, hyz⟩ := hG.keys (y, x) hx
   simp only at hxs hxw hGx hyz
   have hke := key_a y (by omega)
   have hwz := wordB_size y
   have hta := tail_ra hN x k (by omega) hGx (by omega) (by omega)
   have htk := layM_take (w := wordB) (pr := prB) hg k
   have hle := layM_le (w := wordB) (pr := prB) v.m (i + 1) k
   have hrow := rowsM_at hg
   have hlen : i < (rowsM v.m).length := by rw [rowsM_len]; exact hlt
   have z1 : (⟨#[58]⟩ : ByteArray).size = 1 := rfl
   have ztk := congrArg ByteArray.size htk
   rw [ByteArray.size_append, ByteArray.size_append, ByteArray.size_append, ByteArray.size_append] at ztk
   generalize hS : layL wordB prB v.l k ++ layM wordB prB (v.m.take i) k = S
   have hSz : S.size = (layL wordB prB v.l k).size + (layM wordB prB (v.m.take i) k).size := by rw [← hS, ByteArray.size_append]
   have y1 : (S ++ padB k).size = S.size + (padB k).size := ByteArray.size_append ..
   have y2 : (S ++ padB k ++ wordB y).size = S.size + (padB k).size + (wordB y).size := by rw [ByteArray.size_append, ByteArray.size_append]
   have y3 : (S ++ padB k ++ wordB y ++ ⟨#[58]⟩).size = S.size + (padB k).size + (wordB y).size + 1 := by rw [ByteArray.size_append, ByteArray.size_append, ByteArray.size_append]; rfl
   clear hb
   refine kW ?_
   refine kP [.v (.str (padB k)), .c (.str y :: [.int .i64 (x).kind, .bool (x).b, .int .i64 (x).n, .str (x).s, .lst .any 6 (rowsV (x).l), .lst .any 7 (rowsM (x).m)]), .v (.str (wordB y)), .c (.str y :: [.int .i64 (x).kind, .bool (x).b, .int .i64 (x).n, .str (x).s, .lst .any 6 (rowsV (x).l), .lst .any 7 (rowsM (x).m)]), .v (.str (x.tail wordB prB k))] ?_ ?_
   ·((repeat' apply And.intro) <;> first | exact kD | (intro hgd; refine ⟨?_, kG⟩; (repeat' apply And.intro) <;> first | exact kD | skip) | skip)
    all_goals first | exact hrow | exact hta | exact hke | skip
   refine kW ?_
   exact AK.lp ⟨i + 1, by omega, Weak.intro ⟨kI, kI, ⟨_, rfl, .of_eq (congrArg AV.str (by rw [htk, ← hS]; simp only [ByteArray.append_assoc]))⟩, kU, trivial⟩ ⟨kJ, trivial⟩ rfl rfl, by omega⟩
  ·have hlt : i = v.m.length := by
    have : ¬ (i : Int) < (v.m.length : Int) := by simpa using hb
    omega
   subst hlt
   rw [List.take_length]
   refine AK.exit rfl ?_
   refine kW ?_
   refine AK.ret ⟨_, rfl, ?_⟩
   rfl
theorem lay_ok : ∀ N, LayOk N
 | 0 => fun v _ h => by have := v.size_pos; omega
 | N + 1 => lay_step (lay_ok N)
theorem refEmit_a (v : V) (hG : Gd v) (hw : v.w ≤ 6000) (hs : v.size ≤ 6000) : AC Tryz.prog 13 [.agg [.int .i64 (v).kind, .bool (v).b, .int .i64 (v).n, .str (v).s, .lst .any 6 (rowsV (v).l), .lst .any 7 (rowsM (v).m)]] (.str (v.emit wordB prB)) := by
 have hE := empty_a v
 have hps := prB_size v hG.2
 have ht := hG.text
 have hP := fun h => refPrintAll_a v hG h
 have hL := lay_ok v.size v 0 (Nat.le_refl _) hG hw (by omega)
 have z2 : (⟨#[10]⟩ : ByteArray).size = 1 := rfl
 unfold V.emit
 refine kE Tryz.func13 a_ref05_Emit_ok a_ref05_Emit_cb fun E hE => ?_
 refine kW ?_
 refine kQ [.v (.bool v.leaf)] ?_
 refine kC (fun hb => ?_) fun hb => ?_
 ·have hP := hP hb
  rw [if_pos hb]
  refine kW ?_
  refine kQ [.v (.str (prB v))] ?_
  refine kW ?_
  refine AK.ret ⟨_, rfl, ?_⟩
  rfl
 ·rw [if_neg (by rw [hb]; simp)]
  refine kW ?_
  refine kQ [.v (.str (v.lay wordB prB 0))] ?_
  refine kW ?_
  refine AK.ret ⟨_, rfl, ?_⟩
  rfl
theorem wtL_drop {l : List V} {k deep n : Nat} {x : V} (h : l[k]? = some x) : wtL (l.drop k) deep n = if 6000 < n + x.wt deep then (n + x.wt deep, true) else wtL (l.drop (k + 1)) deep (n + x.wt deep) := by
 rw [drop_at h, wtL]
theorem wtM_drop {l : List (ByteArray × V)} {k deep n : Nat} {y : ByteArray} {x : V} (h : l[k]? = some (y, x)) : wtM (l.drop k) deep n = if 6000 < n + (x.wt deep + y.size) then (n + (x.wt deep + y.size), true) else wtM (l.drop (k + 1)) deep (n + (x.wt deep + y.size)) := by
 rw [drop_at h, wtM]
theorem wt_deep {v : V} {deep : Nat} (h : 40 < deep) : v.wt deep = 1048576 := by rw [V.wt_eq, if_pos h]
theorem wt_list {v : V} {deep : Nat} (h : ¬ 40 < deep) (h2 : (wtL v.l (deep + 1) (1 + v.s.size)).2 = true) : v.wt deep = (wtL v.l (deep + 1) (1 + v.s.size)).1 := by rw [V.wt_eq, if_neg h, if_pos h2]
theorem wt_map {v : V} {deep n : Nat} (h : ¬ 40 < deep) (h2 : wtL v.l (deep + 1) (1 + v.s.size) = (n, false)) : v.wt deep = (wtM v.m (deep + 1) n).1 := by rw [V.wt_eq, if_neg h, h2]; rfl
theorem weight_a (N : Nat) : ∀ (v : V) (deep : Nat), v.size ≤ N → v.sb → deep ≤ 41 → AC Tryz.prog 56 [.agg [.int .i64 (v).kind, .bool (v).b, .int .i64 (v).n, .str (v).s, .lst .any 6 (rowsV (v).l), .lst .any 7 (rowsM (v).m)], .int .i64 deep] (.int .i64 (v.wt deep : Nat)) := by
 induction N with
 | zero => intro v _ h; have := v.size_pos; omega
 | succ N ih =>
  intro v deep hn hsb hd
  have hve := v.size_eq
  have hss := sb_s hsb
  have hll := len_le_sizeL v.l
  have hlm := len_le_sizeM v.m
  obtain ⟨hl1, hl2⟩ := sb_len hsb
  refine kE Tryz.func56 a_law01_weight_ok a_law01_weight_cb fun E hE => ?_
  refine kW ?_
  refine kC (fun hb => ?_) fun hb => ?_
  ·have h1 : 40 < deep := by have : (40 : Int) < deep := by simpa using hb
                             omega
   refine kW ?_
   refine AK.ret ⟨_, rfl, ?_⟩
   exact congrArg (AV.int _) (by rw [wt_deep h1]; rfl)
  have h1 : ¬ 40 < deep := by have : (deep : Int) ≤ 40 := by simpa using hb
                              omega
  refine kW ?_
  refine AK.loopI (fun i : Nat × Nat => (frOf [(1, .int .i64 deep), (2, .ptr 2 0), (5, .int .i64 (i.2 : Nat)), (17, .lst .any 6 (rowsV v.l)), (18, .int .i64 (rowsV v.l).length), (19, .int .i64 i.1)], ⟨boxOf [(2, [.int .i64 (v).kind, .bool (v).b, .int .i64 (v).n, .str (v).s, .lst .any 6 (rowsV (v).l), .lst .any 7 (rowsM (v).m)], false)], fun _ => 0⟩))
   (fun i => i.1 ≤ v.l.length ∧ i.2 ≤ 140737488361328 ∧ wtL (v.l.drop i.1) (deep + 1) i.2 = wtL v.l (deep + 1) (1 + v.s.size)) (fun i => v.l.length - i.1) (0, 1 + v.s.size) ⟨by simp, by simp; omega, rfl⟩ (Weak.intro ⟨kI, kI, kU, kI, kI, kI, trivial⟩ ⟨kJ, trivial⟩ rfl rfl) fun ⟨k, n⟩ ⟨hk, hn6, hr⟩ => ?_
  dsimp only at hk hn6 hr
  refine kW ?_
  refine kC (fun hb => ?_) fun hb => ?_
  ·have hlt : k < v.l.length := by simpa [rowsV_len] using hb
   obtain ⟨x, hg⟩ : ∃ x, v.l[k]? = some x := ⟨_, List.getElem?_eq_getElem hlt⟩
   have hx := sizeL_take hg
   have hx2 := sizeL_take_le v.l (k + 1)
   have hwt := V.wt_sb (sb_l hsb hg) (deep := deep + 1) (by omega)
   rw [wtL_drop hg] at hr
   refine kW ?_
   refine kP [.c [.int .i64 (x).kind, .bool (x).b, .int .i64 (x).n, .str (x).s, .lst .any 6 (rowsV (x).l), .lst .any 7 (rowsM (x).m)]] ?_ ?_
   ·((repeat' apply And.intro) <;> first | exact kD | (intro hgd; refine ⟨?_, kG⟩; (repeat' apply And.intro) <;> first | exact kD | skip) | skip)
    ·exact rowsV_at hg
   refine kW ?_
   refine kP [.v (.int .i64 (x.wt (deep + 1) : Nat))] ?_ ?_
   ·((repeat' apply And.intro) <;> first | exact kD | (intro hgd; refine ⟨?_, kG⟩; (repeat' apply And.intro) <;> first | exact kD | skip) | skip)
    ·rw [wrap_in (by omega) (by omega)]
     exact ih x (deep + 1) (by omega) (sb_l hsb hg) (by omega)
   refine kW ?_
   have hw : IntKind.i64.wrap (((k, n).2 : Nat) + (x.wt (deep + 1) : Nat)) = ((n + x.wt (deep + 1) : Nat) : Int) := by
    rw [wrap_in (by omega) (by omega)]; omega
   refine kC (fun hb => ?_) fun hb => ?_
   ·have he : 6000 < n + x.wt (deep + 1) := by
     have : (6000 : Int) < (n + x.wt (deep + 1) : Nat) := by rw [← hw]; simpa using hb
     omega
    rw [if_pos he] at hr
    refine kW ?_
    refine AK.ret ⟨_, rfl, ?_⟩
    exact congrArg (AV.int _) (by rw [wt_list h1 (by rw [← hr]), ← hr, hw])
   ·have he : ¬ 6000 < n + x.wt (deep + 1) := by
     have : ((n + x.wt (deep + 1) : Nat) : Int) ≤ 6000 := by rw [← hw]; simpa using hb
     omega
    rw [if_neg he] at hr
    refine kW ?_
    exact AK.lp ⟨(k + 1, n + x.wt (deep + 1)), ⟨by dsimp only; omega, by dsimp only; omega, hr⟩, Weak.intro ⟨kI, kI, ⟨_, rfl, .of_eq (congrArg _ hw)⟩, kI, kI, kU, trivial⟩ ⟨kJ, trivial⟩ rfl rfl, by dsimp only; omega⟩
  ·have hlt : k = v.l.length := by have : v.l.length ≤ k := by simpa [rowsV_len] using hb
                                   omega
   subst hlt
   rw [List.drop_length, wtL] at hr
   refine AK.exit rfl ?_
   refine kW ?_
   refine AK.loopI (fun i : Nat × Nat => (frOf [(1, .int .i64 deep), (2, .ptr 2 0), (5, .int .i64 (i.2 : Nat)), (34, .lst .any 7 (rowsM v.m)), (35, .int .i64 (rowsM v.m).length), (36, .int .i64 i.1)], ⟨boxOf [(2, [.int .i64 (v).kind, .bool (v).b, .int .i64 (v).n, .str (v).s, .lst .any 6 (rowsV (v).l), .lst .any 7 (rowsM (v).m)], false)], fun _ => 0⟩))
    (fun i => i.1 ≤ v.m.length ∧ i.2 ≤ 140737488361328 ∧ (wtM (v.m.drop i.1) (deep + 1) i.2).1 = v.wt deep) (fun i => v.m.length - i.1) (0, n) ⟨by simp, hn6, (wt_map h1 hr.symm).symm⟩ (Weak.intro ⟨kI, kI, kI, kI, kI, kI, trivial⟩ ⟨kJ, trivial⟩ rfl rfl) fun ⟨k, n⟩ ⟨hk, hn6, hr⟩ => ?_
   dsimp only at hk hn6 hr
   refine kW ?_
   refine kC (fun hb => ?_) fun hb => ?_
   ·have hlt : k < v.m.length := by simpa [rowsM_len] using hb
    obtain ⟨⟨y, x⟩, hg⟩ : ∃ x, v.m[k]? = some x := ⟨_, List.getElem?_eq_getElem hlt⟩
    have hx := sizeM_take hg
    have hx2 := sizeM_take_le v.m (k + 1)
    have hwt := V.wt_sb (sb_m hsb hg).2 (deep := deep + 1) (by omega)
    have hy := (sb_m hsb hg).1
    rw [wtM_drop hg] at hr
    refine kW ?_
    refine kP [.c (.str y :: [.int .i64 (x).kind, .bool (x).b, .int .i64 (x).n, .str (x).s, .lst .any 6 (rowsV (x).l), .lst .any 7 (rowsM (x).m)])] ?_ ?_
    ·((repeat' apply And.intro) <;> first | exact kD | (intro hgd; refine ⟨?_, kG⟩; (repeat' apply And.intro) <;> first | exact kD | skip) | skip)
     ·exact rowsM_at hg
    refine kW ?_
    refine kP [.v (.int .i64 (x.wt (deep + 1) : Nat))] ?_ ?_
    ·((repeat' apply And.intro) <;> first | exact kD | (intro hgd; refine ⟨?_, kG⟩; (repeat' apply And.intro) <;> first | exact kD | skip) | skip)
     ·rw [wrap_in (by omega) (by omega)]
      exact ih x (deep + 1) (by omega) (sb_m hsb hg).2 (by omega)
    refine kW ?_
    have hw : IntKind.i64.wrap (((k, n).2 : Nat) + IntKind.i64.wrap ((x.wt (deep + 1) : Nat) + y.size)) = ((n + (x.wt (deep + 1) + y.size) : Nat) : Int) := by
     rw [wrap_in (n := (x.wt (deep + 1) : Nat) + y.size) (by omega) (by omega), wrap_in (by dsimp only; omega) (by dsimp only; omega)]; dsimp only; omega
    refine kC (fun hb => ?_) fun hb => ?_
    ·have he : 6000 < n + (x.wt (deep + 1) + y.size) := by
      have : (6000 : Int) < (n + (x.wt (deep + 1) + y.size) : Nat) := by rw [← hw]; simpa using hb
      omega
     rw [if_pos he] at hr
     refine kW ?_
     refine AK.ret ⟨_, rfl, ?_⟩
     exact congrArg (AV.int _) (by rw [← hr, hw])
    ·have he : ¬ 6000 < n + (x.wt (deep + 1) + y.size) := by
      have : ((n + (x.wt (deep + 1) + y.size) : Nat) : Int) ≤ 6000 := by rw [← hw]; simpa using hb
      omega
     rw [if_neg he] at hr
     refine kW ?_
     exact AK.lp ⟨(k + 1, n + (x.wt (deep + 1) + y.size)), ⟨by dsimp only; omega, by dsimp only; omega, hr⟩, Weak.intro ⟨kI, kI, ⟨_, rfl, .of_eq (congrArg _ hw)⟩, kI, kI, kU, trivial⟩ ⟨kJ, trivial⟩ rfl rfl, by dsimp only; omega⟩
   ·have hlt : k = v.m.length := by have : v.m.length ≤ k := by simpa [rowsM_len] using hb
                                    omega
    subst hlt
    rw [List.drop_length, wtM] at hr
    refine AK.exit rfl ?_
    refine kW ?_
    refine AK.ret ⟨_, rfl, ?_⟩
    exact congrArg (AV.int _) (by rw [← hr])
theorem light_a (v : V) (hsb : v.sb) : AC Tryz.prog 26 [.agg [.int .i64 (v).kind, .bool (v).b, .int .i64 (v).n, .str (v).s, .lst .any 6 (rowsV (v).l), .lst .any 7 (rowsM (v).m)]] (.bool v.light_) := by
 refine kE Tryz.func26 a_law01_Light_ok a_law01_Light_cb fun E hE => ?_
 refine kW ?_
 refine kP [.v (.int .i64 (v.wt 0 : Nat))] ?_ ?_
 ·((repeat' apply And.intro) <;> first | exact kD | (intro hgd; refine ⟨?_, kG⟩; (repeat' apply And.intro) <;> first | exact kD | skip) | skip)
  ·exact weight_a _ v 0 (Nat.le_refl _) hsb (by omega)
 refine kW ?_
 refine AK.ret ⟨_, rfl, ?_⟩
 refine congrArg AV.bool ?_
 rw [V.light_, Bool.eq_iff_iff]
 simp
 omega
theorem right_drop {l : List V} {k : Nat} {x : V} (h : l[k]? = some x) : rightB (l.drop k) = ((x.light_ && decide (x.checkC = 0)) && rightB (l.drop (k + 1))) := by
 unfold rightB; rw [drop_at h, List.all_cons]
theorem right_a (l : List V) (hl : l.length ≤ 2000000000000) (h : ∀ x ∈ l, x.sb) : AC Tryz.prog 12 [.lst .any 6 (rowsV l)] (.bool (rightB l)) := by
 refine kE Tryz.func12 a_law01_Right_ok a_law01_Right_cb fun E hE => ?_
 refine kW ?_
 refine AK.loopI (fun k : Nat => (frOf [(5, .lst .any 6 (rowsV l)), (6, .int .i64 (rowsV l).length), (7, .int .i64 k)], ⟨boxOf [], fun _ => 0⟩))
  (fun k => k ≤ l.length ∧ rightB (l.drop k) = rightB l) (fun k => l.length - k) 0 ⟨by simp, rfl⟩ (Weak.intro ⟨kI, kI, kI, trivial⟩ trivial rfl rfl) fun k ⟨hk, hr⟩ => ?_
 refine kW ?_
 refine kC (fun hb => ?_) fun hb => ?_
 ·have hlt : k < l.length := by simpa [rowsV_len] using hb
  obtain ⟨x, hg⟩ : ∃ x, l[k]? = some x := ⟨_, List.getElem?_eq_getElem hlt⟩
  have hxs := h x (List.mem_of_getElem? hg)
  rw [right_drop hg] at hr
  refine kW ?_
  refine kP [.c [.int .i64 (x).kind, .bool (x).b, .int .i64 (x).n, .str (x).s, .lst .any 6 (rowsV (x).l), .lst .any 7 (rowsM (x).m)]] ?_ ?_
  ·((repeat' apply And.intro) <;> first | exact kD | (intro hgd; refine ⟨?_, kG⟩; (repeat' apply And.intro) <;> first | exact kD | skip) | skip)
   ·exact rowsV_at hg
  refine kW ?_
  refine kP [.v (.bool x.light_), .v (.int .i64 x.checkC)] ?_ ?_
  ·((repeat' apply And.intro) <;> first | exact kD | (intro hgd; refine ⟨?_, kG⟩; (repeat' apply And.intro) <;> first | exact kD | skip) | skip)
   ·exact light_a x hxs
   ·exact refCheck_a x hxs (by have := V.light_size (show x.light_ = true by simpa [gd] using hgd); omega)
  refine kC (fun hb => ?_) fun hb => ?_
  ·have he : (x.light_ && decide (x.checkC = 0)) = false := by rcases (show x.light_ = false ∨ ¬ x.checkC = 0 by simpa using hb) with h | h <;> simp [h]
   rw [he, Bool.false_and] at hr
   refine kW ?_
   refine AK.ret ⟨_, rfl, ?_⟩
   exact congrArg AV.bool hr
  ·have he : (x.light_ && decide (x.checkC = 0)) = true := by simpa using hb
   rw [he, Bool.true_and] at hr
   refine kW ?_
   exact AK.lp ⟨k + 1, ⟨by omega, hr⟩, Weak.intro ⟨kI, kI, kU, trivial⟩ trivial rfl rfl, by omega⟩
 ·have hlt : k = l.length := by have : l.length ≤ k := by simpa [rowsV_len] using hb
                                omega
  subst hlt
  rw [List.drop_length] at hr
  refine AK.exit rfl ?_
  refine kW ?_
  refine AK.ret ⟨_, rfl, ?_⟩
  exact congrArg AV.bool (by rw [← hr]; rfl)
theorem same_first {a b : V} : (!decide (a.kind = b.kind) || (a.b != b.b) || !decide (a.n = b.n) || !decide (a.s = b.s) || !decide (((rowsV a.l).length : Int) = (rowsV b.l).length) || !decide (((rowsM a.m).length : Int) = (rowsM b.m).length)) = true → a ≠ b := by
 rintro h rfl
 simp at h
theorem same_rest {a b : V} (h : (!decide (a.kind = b.kind) || (a.b != b.b) || !decide (a.n = b.n) || !decide (a.s = b.s) || !decide (((rowsV a.l).length : Int) = (rowsV b.l).length) || !decide (((rowsM a.m).length : Int) = (rowsM b.m).length)) = false) :
  a.kind = b.kind ∧ a.b = b.b ∧ a.n = b.n ∧ a.s = b.s ∧ a.l.length = b.l.length ∧ a.m.length = b.m.length := by
 simp only [rowsV_len, rowsM_len, Bool.or_eq_false_iff, Bool.not_eq_false', decide_eq_true_eq, bne_eq_false_iff_eq] at h
 obtain ⟨⟨⟨⟨⟨h1, h2⟩, h3⟩, h4⟩, h5⟩, h6⟩ := h
 exact ⟨h1, h2, h3, h4, by omega, by omega⟩
theorem same_no {a b : V} (h : a ≠ b) : AV.bool false = .bool (a.sameB b) := by rw [V.sameB_false.2 h]
theorem take_more {α : Type} {l m : List α} {k : Nat} {x y : α} (h : l.take k = m.take k) (hx : l[k]? = some x) (hy : m[k]? = some y) (e : x = y) : l.take (k + 1) = m.take (k + 1) := by rw [take_snoc hx, take_snoc hy, h, e]
set_option maxRecDepth 4000 in
theorem refSame_a (n : Nat) : ∀ a b : V, a.size ≤ n → a.size ≤ 2000000000000 → AC Tryz.prog 16 [.agg [.int .i64 (a).kind, .bool (a).b, .int .i64 (a).n, .str (a).s, .lst .any 6 (rowsV (a).l), .lst .any 7 (rowsM (a).m)], .agg [.int .i64 (b).kind, .bool (b).b, .int .i64 (b).n, .str (b).s, .lst .any 6 (rowsV (b).l), .lst .any 7 (rowsM (b).m)]] (.bool (a.sameB b)) := by
 induction n with
 | zero => intro v _ h; have := v.size_pos; omega
 | succ n ih =>
  intro a b hn hsz
  have hve := a.size_eq
  have hll := len_le_sizeL a.l
  have hlm := len_le_sizeM a.m
  refine kE Tryz.func16 a_ref01_Same_ok a_ref01_Same_cb fun E hE => ?_
  refine kW ?_
  refine kQ [] ?_
  refine kC (fun hb => ?_) fun hb => ?_
  ·refine kW ?_
   refine AK.ret ⟨_, rfl, ?_⟩
   exact same_no (same_first hb)
  obtain ⟨e1, e2, e3, e4, e5, e6⟩ := same_rest hb
  clear hb
  refine kW ?_
  refine AK.loopI (fun k : Nat => (frOf [(2, .ptr 2 0), (3, .ptr 3 0), (5, .int .i64 k)], ⟨boxOf [(2, [.int .i64 (a).kind, .bool (a).b, .int .i64 (a).n, .str (a).s, .lst .any 6 (rowsV (a).l), .lst .any 7 (rowsM (a).m)], false), (3, [.int .i64 (b).kind, .bool (b).b, .int .i64 (b).n, .str (b).s, .lst .any 6 (rowsV (b).l), .lst .any 7 (rowsM (b).m)], false)], fun _ => 0⟩)) (fun k => k ≤ a.l.length ∧ a.l.take k = b.l.take k) (fun k => a.l.length - k) 0 ⟨by omega, rfl⟩ (Weak.intro ⟨kI, kI, kI, trivial⟩ ⟨kJ, kJ, trivial⟩ rfl rfl) fun k ⟨hk, hr⟩ => ?_
  refine kW ?_
  refine kC (fun hb => ?_) fun hb => ?_
  ·have hlt : k < a.l.length := by simpa [rowsV_len] using hb
   obtain ⟨x, hg⟩ : ∃ x, a.l[k]? = some x := ⟨_, List.getElem?_eq_getElem hlt⟩
   obtain ⟨y, hy⟩ : ∃ x, b.l[k]? = some x := ⟨_, List.getElem?_eq_getElem (by omega)⟩
   have hx := sizeL_take hg
   have hx2 := sizeL_take_le a.l (k + 1)
   refine kW ?_
   refine kP [.c [.int .i64 (x).kind, .bool (x).b, .int .i64 (x).n, .str (x).s, .lst .any 6 (rowsV (x).l), .lst .any 7 (rowsM (x).m)], .c [.int .i64 (y).kind, .bool (y).b, .int .i64 (y).n, .str (y).s, .lst .any 6 (rowsV (y).l), .lst .any 7 (rowsM (y).m)], .v (.bool (x.sameB y))] ?_ ?_
   ·((repeat' apply And.intro) <;> first | exact kD | (intro hgd; refine ⟨?_, kG⟩; (repeat' apply And.intro) <;> first | exact kD | skip) | skip)
    ·exact rowsV_at hg
    ·exact rowsV_at hy
    ·exact ih x y (by omega) (by omega)
   refine kC (fun hb => ?_) fun hb => ?_
   ·have he : x ≠ y := V.sameB_false.1 (by simpa using hb)
    refine kW ?_
    refine AK.ret ⟨_, rfl, ?_⟩
    exact same_no (by rintro rfl; rw [hg] at hy; exact he (Option.some.inj hy))
   ·have he : x = y := V.sameB_true.1 (by simpa using hb)
    refine kW ?_
    exact AK.lp ⟨k + 1, ⟨by omega, take_more hr hg hy he⟩, Weak.intro ⟨kI, kI, kU, trivial⟩ ⟨kJ, kJ, trivial⟩ rfl rfl, by omega⟩
  ·have hlt : k = a.l.length := by have : a.l.length ≤ k := by simpa [rowsV_len] using hb
                                   omega
   subst hlt
   have e7 : a.l = b.l := by rw [List.take_length, e5, List.take_length] at hr; exact hr
   clear hr
   refine AK.exit rfl ?_
   refine kW ?_
   refine AK.loopI (fun k : Nat => (frOf [(2, .ptr 2 0), (3, .ptr 3 0), (6, .int .i64 k)], ⟨boxOf [(2, [.int .i64 (a).kind, .bool (a).b, .int .i64 (a).n, .str (a).s, .lst .any 6 (rowsV (a).l), .lst .any 7 (rowsM (a).m)], false), (3, [.int .i64 (b).kind, .bool (b).b, .int .i64 (b).n, .str (b).s, .lst .any 6 (rowsV (b).l), .lst .any 7 (rowsM (b).m)], false)], fun _ => 0⟩)) (fun k => k ≤ a.m.length ∧ a.m.take k = b.m.take k) (fun k => a.m.length - k) 0 ⟨by omega, rfl⟩ (Weak.intro ⟨kI, kI, kI, trivial⟩ ⟨kJ, kJ, trivial⟩ rfl rfl) fun k ⟨hk, hr⟩ => ?_
   refine kW ?_
   refine kC (fun hb => ?_) fun hb => ?_
   ·have hlt : k < a.m.length := by simpa [rowsM_len] using hb
    obtain ⟨⟨p, x⟩, hg⟩ : ∃ x, a.m[k]? = some x := ⟨_, List.getElem?_eq_getElem hlt⟩
    obtain ⟨⟨q, y⟩, hy⟩ : ∃ x, b.m[k]? = some x := ⟨_, List.getElem?_eq_getElem (by omega)⟩
    have hx := sizeM_take hg
    have hx2 := sizeM_take_le a.m (k + 1)
    refine kW ?_
    refine kP [.c (.str p :: [.int .i64 (x).kind, .bool (x).b, .int .i64 (x).n, .str (x).s, .lst .any 6 (rowsV (x).l), .lst .any 7 (rowsM (x).m)]), .c (.str q :: [.int .i64 (y).kind, .bool (y).b, .int .i64 (y).n, .str (y).s, .lst .any 6 (rowsV (y).l), .lst .any 7 (rowsM (y).m)]), .c (.str p :: [.int .i64 (x).kind, .bool (x).b, .int .i64 (x).n, .str (x).s, .lst .any 6 (rowsV (x).l), .lst .any 7 (rowsM (x).m)]), .c (.str q :: [.int .i64 (y).kind, .bool (y).b, .int .i64 (y).n, .str (y).s, .lst .any 6 (rowsV (y).l), .lst .any 7 (rowsM (y).m)]), .v (.bool (x.sameB y))] ?_ ?_
    ·((repeat' apply And.intro) <;> first | exact kD | (intro hgd; refine ⟨?_, kG⟩; (repeat' apply And.intro) <;> first | exact kD | skip) | skip)
     ·exact rowsM_at hg
     ·exact rowsM_at hy
     ·exact rowsM_at hg
     ·exact rowsM_at hy
     ·exact ih x y (by omega) (by omega)
    refine kC (fun hb => ?_) fun hb => ?_
    ·have he : ¬ (p = q ∧ x = y) := by
      rintro ⟨rfl, rfl⟩
      rw [V.sameB_true.2 rfl] at hb
      simp at hb
     refine kW ?_
     refine AK.ret ⟨_, rfl, ?_⟩
     exact same_no (by rintro rfl; rw [hg] at hy; cases hy; exact he ⟨rfl, rfl⟩)
    ·have he : p = q ∧ x = y := by
      simp only [Bool.or_eq_false_iff, Bool.not_eq_false', decide_eq_true_eq] at hb
      exact ⟨hb.1, V.sameB_true.1 hb.2⟩
     refine kW ?_
     exact AK.lp ⟨k + 1, ⟨by omega, take_more hr hg hy (by rw [he.1, he.2])⟩, Weak.intro ⟨kI, kI, kU, trivial⟩ ⟨kJ, kJ, trivial⟩ rfl rfl, by omega⟩
   ·have hlt : k = a.m.length := by have : a.m.length ≤ k := by simpa [rowsM_len] using hb
                                    omega
    subst hlt
    have e8 : a.m = b.m := by rw [List.take_length, e6, List.take_length] at hr; exact hr
    refine AK.exit rfl ?_
    refine kW ?_
    refine AK.ret ⟨_, rfl, ?_⟩
    exact congrArg AV.bool (V.sameB_true.2 (V.ext_iff'.2 ⟨e1, e2, e3, e4, e7, e8⟩)).symm
theorem emit_a (v : V) (hG : Gd v) (hs : v.size ≤ 6000) (hl : (v.emit wordB prB).size ≤ 1000000000000) : AC Tryz.prog 20 [.agg [.int .i64 (v).kind, .bool (v).b, .int .i64 (v).n, .str (v).s, .lst .any 6 (rowsV (v).l), .lst .any 7 (rowsM (v).m)]] (.str (v.emit wordB prB)) :=
 emitTop_a (Gd := Gd) (fun v h hl => printAll_a v h hl) (fun v h => ⟨h.parts, fun p hp => ⟨(h.keys p hp).1, by have := (h.keys p hp).2; omega⟩⟩) v hG (by omega) hl
theorem emit_bound (v : V) (hG : Gd v) (hw : v.w ≤ 6000) (hs : v.size ≤ 6000) : (v.emit wordB prB).size ≤ 200000000 := by
 have h1 := prB_size v hG.2
 have h2 := lay_bound v.size v 0 (Nat.le_refl _) hG.2 (by omega)
 have h3 := w_pos v
 have z : (⟨#[10]⟩ : ByteArray).size = 1 := rfl
 unfold V.emit
 split
 ·rw [ByteArray.size_append]; omega
 ·omega
theorem right1_a (v : V) (hsb : v.sb) : AC Tryz.prog 12 [.lst .any 6 [[.int .i64 (v).kind, .bool (v).b, .int .i64 (v).n, .str (v).s, .lst .any 6 (rowsV (v).l), .lst .any 7 (rowsM (v).m)]]] (.bool (rightB [v])) := by
 have h := right_a [v] (by simp) (fun x hx => by rw [List.mem_singleton.1 hx]; exact hsb)
 rw [show rowsV [v] = [[.int .i64 (v).kind, .bool (v).b, .int .i64 (v).n, .str (v).s, .lst .any 6 (rowsV (v).l), .lst .any 7 (rowsM (v).m)]] by rw [rowsV, rowsV, cellsV_eq]] at h
 exact h
theorem right1_facts {v : V} (h : rightB [v] = true) (hn : Nb v) : Gd v ∧ v.checkC = 0 ∧ v.w ≤ 6000 ∧ v.size ≤ 6000 := by
 unfold rightB at h
 simp only [List.all_cons, List.all_nil, Bool.and_true, Bool.and_eq_true, decide_eq_true_eq] at h
 exact ⟨⟨(V.check_good h.2).1, hn⟩, h.2, (V.light_iff h.1).1, V.light_size h.1⟩
theorem yamlWrites_a (v : V) (hsb : v.sb) (hn : Nb v) : AC Tryz.prog 7 [.agg [.int .i64 (v).kind, .bool (v).b, .int .i64 (v).n, .str (v).s, .lst .any 6 (rowsV (v).l), .lst .any 7 (rowsM (v).m)]] (.bool true) := by
 have hA := awake_a
 have hR := right1_a v hsb
 have hF := fun h => right1_facts (v := v) h hn
 refine kE Tryz.func7 a_law05_YamlWrites_ok a_law05_YamlWrites_cb fun E hE => ?_
 refine kW ?_
 refine kQ [.v (.bool (rightB [v]))] ?_
 refine kC (fun hb => ?_) fun hb => ?_
 ·refine kW ?_
  refine kQ [.v (.bool true)] ?_
  refine kW ?_
  refine AK.ret ⟨_, rfl, ?_⟩
  rfl
 obtain ⟨hG, hc, hw, hs⟩ := hF (by simpa using hb)
 clear hF hR hb
 have hbd := emit_bound v hG hw hs
 have hE := emit_a v hG hs (by omega)
 have hRe := refEmit_a v hG hw hs
 have hPa := parse_a (v.emit wordB prB)
 have hPe := fun h => parse_emit (fit_all v.size v (Nat.le_refl _) hG.1 hG.2) hc h
 have hS := refSame_a v.size v v (Nat.le_refl _) (by omega)
 have hsame : v.sameB v = true := V.sameB_true.2 rfl
 rw [hsame] at hS
 generalize v.emit wordB prB = s at *
 refine kW ?_
 refine kQ [.v (.str s)] ?_
 refine kW ?_
 refine kQ [.v (.str s)] ?_
 refine kC (fun hb => ?_) fun hb => ?_
 ·simp at hb
 refine kW ?_
 refine kC (fun hb => ?_) fun hb => ?_
 ·refine kW ?_
  refine kQ [.v (.bool true)] ?_
  refine kW ?_
  refine AK.ret ⟨_, rfl, ?_⟩
  rfl
 have hz : s.size ≤ 65536 := by
  have : ¬ (s.size : Int) > 65536 := by simpa using hb
  omega
 rw [hPe hz] at hPa
 refine kW ?_
 refine kQ [.v (.tup [.agg [.int .i64 (v).kind, .bool (v).b, .int .i64 (v).n, .str (v).s, .lst .any 6 (rowsV (v).l), .lst .any 7 (rowsM (v).m)], .int .i64 0])] ?_
 refine kW ?_
 refine kQ [.v (.bool true), .v (.bool true), .v (.str s)] ?_
 refine kW ?_
 refine AK.ret ⟨_, rfl, ?_⟩
 simp
 rfl
end Go.Proofs.YtgekcnpfflhpkaaGreatDoor
