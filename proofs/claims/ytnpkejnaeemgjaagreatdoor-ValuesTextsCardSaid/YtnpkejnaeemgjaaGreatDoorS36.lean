/-
  The texts that the claim wants, one behind the other: part 36.
-/
import Derived.Test.YtnpkejnaeemgjaaGreatDoorS35
import Derived.Lib.AppendIntMem
import Derived.Test.YtnpkejnaeemgjaaGreatDoorChecked
import Derived.KernelRfl
set_option linter.unusedSimpArgs false
set_option linter.unusedVariables false
namespace Go.Proofs.YtnpkejnaeemgjaaGreatDoor
open Go.RowKit
inductive Nb : V → Prop where
 | mk {k : Int} {b : Bool} {n : Int} {s : ByteArray} {l : List V} {m : List (ByteArray × V)} (h1 : -9223372036854775808 ≤ n) (h2 : n ≤ 9223372036854775807) (hl : ∀ x ∈ l, Nb x) (hm : ∀ p ∈ m, Nb p.2) : Nb (.mk k b n s l m)
theorem Nb.num {v : V} (h : Nb v) : -9223372036854775808 ≤ v.n ∧ v.n ≤ 9223372036854775807 := by cases h; exact ⟨‹_›, ‹_›⟩
theorem Nb.l {v : V} (h : Nb v) : ∀ x ∈ v.l, Nb x := by cases h; assumption
theorem Nb.m {v : V} (h : Nb v) : ∀ p ∈ v.m, Nb p.2 := by cases h; assumption
theorem good_cases {v : V} (h : v.good) : v = V.null ∨ (∃ b, v = V.bool b) ∨ (∃ n, v = V.int n) ∨ (∃ s, v = V.str s) ∨ (∃ l, v = vList l) ∨ ∃ m, v = vMap m := by
 have hk := (v.good_eq.1 h).1
 obtain ⟨k, b, n, s, l, m⟩ := v
 simp only [V.kind, V.b, V.n, V.s, V.l, V.m] at hk
 unfold kbad at hk
 simp only [Bool.or_eq_false_iff, Bool.and_eq_false_iff, decide_eq_false_iff_not, Decidable.not_not, Nat.not_lt, Nat.le_zero] at hk
 obtain ⟨⟨⟨⟨⟨⟨k0, k5⟩, k1⟩, k2⟩, k3⟩, k4⟩, k6⟩ := hk
 have hl : l.length = 0 → l = [] := List.length_eq_zero_iff.1
 have hm : m.length = 0 → m = [] := List.length_eq_zero_iff.1
 have hcase : k = 0 ∨ k = 1 ∨ k = 2 ∨ k = 3 ∨ k = 4 ∨ k = 5 := by omega
 rcases hcase with rfl | rfl | rfl | rfl | rfl | rfl
 ·refine .inl ?_
  rcases k1 with k1 | rfl
  ·exact absurd k1 (by decide)
  rcases k2 with k2 | rfl
  ·exact absurd k2 (by decide)
  rcases k3 with k3 | rfl
  ·exact absurd k3 (by decide)
  rcases k4 with k4 | k4
  ·exact absurd k4 (by decide)
  rcases k6 with k6 | k6
  ·exact absurd k6 (by decide)
  rw [hl k4, hm k6]
  rfl
 ·refine .inr (.inl ⟨b, ?_⟩)
  rcases k2 with k2 | rfl
  ·exact absurd k2 (by decide)
  rcases k3 with k3 | rfl
  ·exact absurd k3 (by decide)
  rcases k4 with k4 | k4
  ·exact absurd k4 (by decide)
  rcases k6 with k6 | k6
  ·exact absurd k6 (by decide)
  rw [hl k4, hm k6]
  rfl
 ·refine .inr (.inr (.inl ⟨n, ?_⟩))
  rcases k1 with k1 | rfl
  ·exact absurd k1 (by decide)
  rcases k3 with k3 | rfl
  ·exact absurd k3 (by decide)
  rcases k4 with k4 | k4
  ·exact absurd k4 (by decide)
  rcases k6 with k6 | k6
  ·exact absurd k6 (by decide)
  rw [hl k4, hm k6]
  rfl
 ·refine .inr (.inr (.inr (.inl ⟨s, ?_⟩)))
  rcases k1 with k1 | rfl
  ·exact absurd k1 (by decide)
  rcases k2 with k2 | rfl
  ·exact absurd k2 (by decide)
  rcases k4 with k4 | k4
  ·exact absurd k4 (by decide)
  rcases k6 with k6 | k6
  ·exact absurd k6 (by decide)
  rw [hl k4, hm k6]
  rfl
 ·refine .inr (.inr (.inr (.inr (.inl ⟨l, ?_⟩))))
  rcases k1 with k1 | rfl
  ·exact absurd k1 (by decide)
  rcases k2 with k2 | rfl
  ·exact absurd k2 (by decide)
  rcases k3 with k3 | rfl
  ·exact absurd k3 (by decide)
  rcases k6 with k6 | k6
  ·exact absurd k6 (by decide)
  rw [hm k6]
  rfl
 ·refine .inr (.inr (.inr (.inr (.inr ⟨m, ?_⟩))))
  rcases k1 with k1 | rfl
  ·exact absurd k1 (by decide)
  rcases k2 with k2 | rfl
  ·exact absurd k2 (by decide)
  rcases k3 with k3 | rfl
  ·exact absurd k3 (by decide)
  rcases k4 with k4 | k4
  ·exact absurd k4 (by decide)
  rw [hl k4]
  rfl
theorem leafL {l : List V} (h : (vList l).leaf = true) : l = [] := by
 rw [leaf_iff] at h
 exact List.length_eq_zero_iff.1 (by have : l.length + ([] : List (ByteArray × V)).length = 0 := h; simpa using this)
theorem leafM {m : List (ByteArray × V)} (h : (vMap m).leaf = true) : m = [] := by
 rw [leaf_iff] at h
 exact List.length_eq_zero_iff.1 (by have : ([] : List V).length + m.length = 0 := h; simpa using this)
theorem fit_all : ∀ (N : Nat) (v : V), v.size ≤ N → v.good → Nb v → Fit v
 | 0, v, h, _, _ => by have := v.size_pos; omega
 | N + 1, v, h, hg, hn => by
  have ih := fit_all N
  rcases good_cases hg with rfl | ⟨b, rfl⟩ | ⟨n, rfl⟩ | ⟨s, rfl⟩ | ⟨l, rfl⟩ | ⟨m, rfl⟩
  ·exact .leaf rfl leaf_null
  ·exact .leaf rfl (leaf_bool b)
  ·exact .leaf rfl (leaf_int n hn.num.1 hn.num.2)
  ·exact .leaf rfl (leaf_str s)
  ·by_cases hl : l = []
   ·subst hl
    exact .leaf rfl leaf_list
   ·rw [vList_size] at h
    exact .list hl fun x hx => ih x (by have := mem_sizeL hx; omega) (good_l (v := vList l) hg hx) (hn.l x hx)
  ·by_cases hm : m = []
   ·subst hm
    exact .leaf rfl leaf_map
   ·rw [vMap_size] at h
    exact .map hm (rises_all ((vMap m).good_eq.1 hg).2.2.2.2) fun p hp => ih p.2 (by have := mem_sizeM hp; omega) (good_m (v := vMap m) hg hp) (hn.m p hp)
def Gd (v : V) : Prop := v.good ∧ Nb v
theorem Gd.text {v : V} (h : Gd v) : v.s.size ≤ 65536 := by
 have := (v.good_eq.1 h.1).2.1
 unfold textB at this
 rw [Bool.and_eq_true, decide_eq_true_eq] at this
 exact this.2
theorem Gd.keys {v : V} (h : Gd v) : ∀ p ∈ v.m, Gd p.2 ∧ p.1.size ≤ 256 := fun p hp => by
 have := ((goodM_iff _).1 (v.good_eq.1 h.1).2.2.2.1 p hp)
 refine ⟨⟨this.2, h.2.m p hp⟩, ?_⟩
 have hk := this.1
 unfold keyB at hk
 simp only [Bool.and_eq_true, decide_eq_true_eq] at hk
 exact hk.2.2
theorem Gd.parts {v : V} (h : Gd v) : ∀ x ∈ v.l, Gd x := fun x hx => ⟨good_l h.1 hx, h.2.l x hx⟩
theorem refWord_a (s : ByteArray) (hs : s.size ≤ 140737488355328) : AC Tryz.prog 19 [.agg [.int .i64 3, .bool false, .int .i64 0, .str s, .lst .any 6 [], .lst .any 7 []]] (.str (wordB s)) := by
 refine kE Tryz.func19 a_ref04_Print_ok a_ref04_Print_cb fun E hE => ?_
 refine kW ?_
 refine kC (fun hb => ?_) fun hb => ?_
 ·cases hb
 refine kW ?_
 refine kC (fun hb => ?_) fun hb => ?_
 ·cases hb
 refine kW ?_
 refine kC (fun hb => ?_) fun hb => ?_
 ·refine kW ?_
  refine kP [.v (.bool (bareB s))] ?_ ?_
  ·((repeat' apply And.intro) <;> first | exact kD | (intro hgd; refine ⟨?_, kG⟩; (repeat' apply And.intro) <;> first | exact kD | skip) | skip)
   all_goals exact refBare_a s hs
  refine kC (fun hb => ?_) fun hb => ?_
  ·refine kW ?_
   refine AK.ret ⟨_, rfl, ?_⟩
   rw [wordB, if_pos hb]
   rfl
  ·refine kW ?_
   refine kP [.v (.str (quoteB s))] ?_ ?_
   ·((repeat' apply And.intro) <;> first | exact kD | (intro hgd; refine ⟨?_, kG⟩; (repeat' apply And.intro) <;> first | exact kD | skip) | skip)
    all_goals exact refQuote_a s hs
   refine kW ?_
   refine AK.ret ⟨_, rfl, ?_⟩
   rw [wordB, if_neg (by rw [hb]; simp)]
   rfl
 ·cases hb
theorem refPrintAll_a (v : V) (hG : Gd v) (hl : v.leaf = true) : AC Tryz.prog 19 [(vA (v))] (.str (prB v)) := by
 have ht := hG.text
 have hn := hG.2.num
 rcases good_cases hG.1 with rfl | ⟨b, rfl⟩ | ⟨n, rfl⟩ | ⟨s, rfl⟩ | ⟨l, rfl⟩ | ⟨m, rfl⟩
 ·skip
  refine kE Tryz.func19 a_ref04_Print_ok a_ref04_Print_cb fun E hE => ?_
  refine kW ?_
  refine kC (fun hb => ?_) fun hb => ?_
  ·cases hb
  refine kW ?_
  refine kC (fun hb => ?_) fun hb => ?_
  ·cases hb
  refine kW ?_
  refine kC (fun hb => ?_) fun hb => ?_
  ·cases hb
  refine kW ?_
  refine kC (fun hb => ?_) fun hb => ?_
  ·cases hb
  refine kW ?_
  refine kC (fun hb => ?_) fun hb => ?_
  ·cases hb
  refine kW ?_
  refine AK.ret ⟨_, rfl, ?_⟩
  rfl
 ·skip
  refine kE Tryz.func19 a_ref04_Print_ok a_ref04_Print_cb fun E hE => ?_
  refine kW ?_
  refine kC (fun hb => ?_) fun hb => ?_
  ·refine kW ?_
   refine AK.cond (by rfl) (fun hc => ?_) (fun hc => ?_)
   ·have hc : b = true := hc
    subst hc
    refine kW ?_
    refine AK.ret ⟨_, rfl, ?_⟩
    rfl
   ·have hc : b = false := hc
    subst hc
    refine kW ?_
    refine AK.ret ⟨_, rfl, ?_⟩
    rfl
  ·cases hb
 ·have h := digits_a n hn.1 hn.2
  refine kE Tryz.func19 a_ref04_Print_ok a_ref04_Print_cb fun E hE => ?_
  refine kW ?_
  refine kC (fun hb => ?_) fun hb => ?_
  ·cases hb
  refine kW ?_
  refine kC (fun hb => ?_) fun hb => ?_
  ·refine kW ?_
   refine kQ [.v (.str (itB n))] ?_
   refine kW ?_
   refine AK.ret ⟨_, rfl, ?_⟩
   rfl
  ·cases hb
 ·exact refWord_a s (by have : s.size ≤ 65536 := ht; omega)
 ·obtain rfl := leafL hl
  refine kE Tryz.func19 a_ref04_Print_ok a_ref04_Print_cb fun E hE => ?_
  refine kW ?_
  refine kC (fun hb => ?_) fun hb => ?_
  ·cases hb
  refine kW ?_
  refine kC (fun hb => ?_) fun hb => ?_
  ·cases hb
  refine kW ?_
  refine kC (fun hb => ?_) fun hb => ?_
  ·cases hb
  refine kW ?_
  refine kC (fun hb => ?_) fun hb => ?_
  ·refine kW ?_
   refine AK.ret ⟨_, rfl, ?_⟩
   rfl
  ·cases hb
 ·obtain rfl := leafM hl
  refine kE Tryz.func19 a_ref04_Print_ok a_ref04_Print_cb fun E hE => ?_
  refine kW ?_
  refine kC (fun hb => ?_) fun hb => ?_
  ·cases hb
  refine kW ?_
  refine kC (fun hb => ?_) fun hb => ?_
  ·cases hb
  refine kW ?_
  refine kC (fun hb => ?_) fun hb => ?_
  ·cases hb
  refine kW ?_
  refine kC (fun hb => ?_) fun hb => ?_
  ·cases hb
  refine kW ?_
  refine kC (fun hb => ?_) fun hb => ?_
  ·refine kW ?_
   refine AK.ret ⟨_, rfl, ?_⟩
   rfl
  ·cases hb
end Go.Proofs.YtnpkejnaeemgjaaGreatDoor
namespace Go.Proofs.YtnpkejnaeemgjaaGreatDoor
open Go.ChangeShapes Go.WideShapes Go.ChangeAt Go.RowKit Go.Deep
theorem val_of_trodN {H : Type} {enc : TypeId × Value → H} {w : World} {base : Nat} {spare : Nat → Bool} {held : Bool} : ∀ (n : Nat) (cs : List Value) (y : DataW H × List MemPlace),
  DataW.trod enc Tryz.prog w base spare held n 25 cs = some y → WtOk Tryz.prog 25 y.1 → ∃ v : V, RelL (σW w) cs (cellsV v) ∧ v.sb ∧ Nb v := by
 intro n
 induction n using Nat.strongRecOn with
 | _ n ih =>
  intro cs y h hw
  obtain ⟨xs, m, hm, hy, hl, hxl, hf⟩ := DataW.trod_struct Tryz.underlying25 h
  rw [cellsTV] at hl
  obtain ⟨c0, c1, c2, c3, c4, c5, rfl⟩ := list6 hl
  obtain ⟨x0, x1, x2, x3, x4, x5, rfl⟩ := list6 (show xs.length = 6 from hxl)
  rw [hy] at hw
  have f0 : DataW.trod enc Tryz.prog w base spare held m 3 (List.take (Tryz.prog.cellsOf 3) (List.drop 0 [c0, c1, c2, c3, c4, c5])) = some x0 := hf 0 _ rfl
  have f1 : DataW.trod enc Tryz.prog w base spare held m 4 (List.take (Tryz.prog.cellsOf 4) (List.drop 1 [c0, c1, c2, c3, c4, c5])) = some x1 := hf 1 _ rfl
  have f2 : DataW.trod enc Tryz.prog w base spare held m 2 (List.take (Tryz.prog.cellsOf 2) (List.drop 2 [c0, c1, c2, c3, c4, c5])) = some x2 := hf 2 _ rfl
  have f3 : DataW.trod enc Tryz.prog w base spare held m 9 (List.take (Tryz.prog.cellsOf 9) (List.drop 3 [c0, c1, c2, c3, c4, c5])) = some x3 := hf 3 _ rfl
  have f4 : DataW.trod enc Tryz.prog w base spare held m 22 (List.take (Tryz.prog.cellsOf 22) (List.drop 4 [c0, c1, c2, c3, c4, c5])) = some x4 := hf 4 _ rfl
  have f5 : DataW.trod enc Tryz.prog w base spare held m 23 (List.take (Tryz.prog.cellsOf 23) (List.drop 5 [c0, c1, c2, c3, c4, c5])) = some x5 := hf 5 _ rfl
  have w3 : WtOk Tryz.prog 9 x3.1 := WtOk.part Tryz.underlying25 hw (j := 3) rfl rfl
  have w4 : WtOk Tryz.prog 22 x4.1 := WtOk.part Tryz.underlying25 hw (j := 4) rfl rfl
  have w5 : WtOk Tryz.prog 23 x5.1 := WtOk.part Tryz.underlying25 hw (j := 5) rfl rfl
  simp only [cellsI, cellsI64, cellsB, cellsS, cellsLV, cellsLP, List.drop_succ_cons, List.drop_zero, List.take_succ_cons, List.take_zero] at f0 f1 f2 f3 f4 f5
  obtain ⟨k, e0, _⟩ := DataW.trod_int Tryz.underlying3 f0
  obtain ⟨b, e1, _⟩ := DataW.trod_bool Tryz.underlying4 f1
  obtain ⟨i, e2, _, wfi⟩ := DataW.trod_int Tryz.underlying2 f2
  obtain ⟨s, e3, hx3, _⟩ := DataW.trod_string Tryz.underlying9 f3
  injection e0 with e0; injection e1 with e1; injection e2 with e2; injection e3 with e3
  subst e0 e1 e2 e3
  rw [hx3] at w3
  obtain ⟨l, hl1, hl2⟩ := sl_of_trodW (R := fun cs (v : V) => RelL (σW w) cs (cellsV v) ∧ v.sb ∧ Nb v) Tryz.underlying22 cellsTV (by decide) f4 w4 (fun n' cs y hn h hw => ih n' (by omega) cs y h hw)
  obtain ⟨mm, hm1, hm2⟩ := sl_of_trodW (R := fun cs (p : ByteArray × V) => RelL (σW w) cs (.str p.1 :: cellsV p.2) ∧ p.1.size ≤ 140737488355328 ∧ p.2.sb ∧ Nb p.2) Tryz.underlying23 cellsTP (by decide) f5 w5 (fun n' cs y hn h hw => by
   obtain ⟨xs, m', hm', hy, hl, hxl, hf⟩ := DataW.trod_struct Tryz.underlying58 h
   rw [cellsTP] at hl
   obtain ⟨d0, d1, d2, d3, d4, d5, d6, rfl⟩ := list7 hl
   obtain ⟨z0, z1, rfl⟩ : ∃ a b, xs = [a, b] := by
    have hxl : xs.length = 2 := hxl
    rcases xs with _ | ⟨a, _ | ⟨b, _ | ⟨c, l⟩⟩⟩ <;> simp at hxl
    exact ⟨a, b, rfl⟩
   rw [hy] at hw
   have g0 : DataW.trod enc Tryz.prog w base spare held m' 9 (List.take (Tryz.prog.cellsOf 9) (List.drop 0 [d0, d1, d2, d3, d4, d5, d6])) = some z0 := hf 0 _ rfl
   have g1 : DataW.trod enc Tryz.prog w base spare held m' 25 (List.take (Tryz.prog.cellsOf 25) (List.drop 1 [d0, d1, d2, d3, d4, d5, d6])) = some z1 := hf 1 _ rfl
   have v0 : WtOk Tryz.prog 9 z0.1 := WtOk.part Tryz.underlying58 hw (j := 0) rfl rfl
   have v1 : WtOk Tryz.prog 25 z1.1 := WtOk.part Tryz.underlying58 hw (j := 1) rfl rfl
   simp only [cellsS, cellsTV, List.drop_succ_cons, List.drop_zero, List.take_succ_cons, List.take_zero] at g0 g1
   obtain ⟨y, e0, hz0, _⟩ := DataW.trod_string Tryz.underlying9 g0
   injection e0 with e0
   subst e0
   rw [hz0] at v0
   obtain ⟨v, hv1, hv2, hv3⟩ := ih m' (by omega) _ z1 g1 v1
   exact ⟨(y, v), .cons (.str y) hv1, str_wt v0, hv2, hv3⟩)
  rw [bytesTV] at hl2
  rw [bytesTP] at hm2
  have h47 := reach47
  refine ⟨.mk k b i s l mm, ?_, ?_, ?_⟩
  ·rw [cellsV]
   refine .cons (.int _ _) (.cons (.bool _) (.cons (.int _ _) (.cons (.str _) (.cons ?_ (.cons ?_ .nil)))))
   ·rw [rowsV_map]; exact rel_of_sl hl1 cellsV fun cs x h => h.1
   ·rw [rowsM_map]; exact rel_of_sl hm1 (fun p => .str p.1 :: cellsV p.2) fun cs x h => h.1
  ·rw [V.sb]
   refine ⟨str_wt w3, ⟨by omega, by omega⟩, (sbL_iff l).2 fun x hx => ?_, (sbM_iff mm).2 fun p hp => ?_⟩
   ·obtain ⟨cs, h⟩ := sl_all hl1 hx; exact h.2.1
   ·obtain ⟨cs, h⟩ := sl_all hm1 hp; exact ⟨h.2.1, h.2.2.1⟩
  ·have hw2 : -9223372036854775808 ≤ i ∧ i ≤ 9223372036854775807 := by simpa [Lit.wf, IntKind.min, IntKind.max, IntKind.signed, IntKind.bits] using wfi
   exact .mk hw2.1 hw2.2 (fun x hx => by obtain ⟨cs, h⟩ := sl_all hl1 hx; exact h.2.2) (fun p hp => by obtain ⟨cs, h⟩ := sl_all hm1 hp; exact h.2.2.2)
theorem val_argN {H : Type} {enc : TypeId × Value → H} {W : World} {base : Nat} {spare : Nat → Bool} {held : Bool} {v : Value} {d : DataW H} {p : List MemPlace} (hv : ∃ cs : Array Value, v = .agg cs) (h : DataW.Trod enc Tryz.prog W base spare held 25 v d p) (hw : WtOk Tryz.prog 25 d) :
  ∃ u : V, RelP (σW W) v ((vA (u))) ∧ u.sb ∧ Nb u := by
 obtain ⟨cs, rfl⟩ := hv
 obtain ⟨fuel, hf⟩ := h
 obtain ⟨u, h1, h2, h3⟩ := val_of_trodN fuel _ _ hf hw
 rw [cellsV_eq] at h1
 exact ⟨u, ⟨cs.toList, by simp, h1⟩, h2, h3⟩
end Go.Proofs.YtnpkejnaeemgjaaGreatDoor
namespace Go.Proofs.YtnpkejnaeemgjaaGreatDoor
open Go.RowKit
def partB (w : ByteArray) : Bool := !(decide (w = ⟨#[]⟩) || decide (w = ⟨#[46]⟩) || decide (w = ⟨#[46, 46]⟩) || !bareB (cutS w ⟨#[95]⟩))
def nameC (s : ByteArray) : Bool := (splT 47 s).all partB && decide (s.size ≤ 256)
def insF (p : ByteArray × ByteArray) : List (ByteArray × ByteArray) → List (ByteArray × ByteArray)
 | [] => [p]
 | q :: l => if Op.bytesLess q.1.toList p.1.toList = true then q :: insF p l else p :: q :: l
def sortF (l : List (ByteArray × ByteArray)) : List (ByteArray × ByteArray) := l.foldl (fun out p => insF p out) []
theorem insF_len (p : ByteArray × ByteArray) : ∀ l, (insF p l).length = l.length + 1
 | [] => rfl
 | q :: l => by rw [insF]; split <;> simp [insF_len p l]
theorem sortF_len (l : List (ByteArray × ByteArray)) : (sortF l).length = l.length := by
 have key : ∀ (l out : List (ByteArray × ByteArray)), (l.foldl (fun out p => insF p out) out).length = out.length + l.length := by
  intro l
  induction l with
  | nil => intro out; rfl
  | cons p l ih => intro out; rw [List.foldl_cons, ih, insF_len, List.length_cons]; omega
 rw [sortF, key]
 simp
theorem insF_perm (p : ByteArray × ByteArray) : ∀ l, (insF p l).Perm (p :: l)
 | [] => .refl _
 | q :: l => by
  rw [insF]
  split
  ·exact ((insF_perm p l).cons q).trans (.swap p q l)
  ·exact .refl _
theorem sortF_perm (l : List (ByteArray × ByteArray)) : (sortF l).Perm l := by
 have key : ∀ (l out : List (ByteArray × ByteArray)), (l.foldl (fun out p => insF p out) out).Perm (out ++ l) := by
  intro l
  induction l with
  | nil => intro out; simp
  | cons p l ih =>
   intro out
   rw [List.foldl_cons]
   refine (ih (insF p out)).trans (((insF_perm p out).append_right l).trans ?_)
   exact (List.perm_middle (l₁ := out) (a := p) (l₂ := l)).symm
 exact key l []
theorem insF_rises {p : ByteArray × ByteArray} : ∀ {l : List (ByteArray × ByteArray)}, l.Pairwise (fun x y => klt x.1 y.1) → (∀ q ∈ l, q.1 ≠ p.1) → (insF p l).Pairwise fun x y => klt x.1 y.1
 | [], _, _ => List.pairwise_singleton _ _
 | q :: l, h, hn => by
  obtain ⟨h1, h2⟩ := List.pairwise_cons.1 h
  rw [insF]
  split
  ·rename_i hk
   refine List.pairwise_cons.2 ⟨fun x hx => ?_, insF_rises h2 fun x hx => hn x (by simp [hx])⟩
   rcases List.mem_cons.1 ((insF_perm p l).mem_iff.1 hx) with rfl | hx
   ·exact hk
   ·exact h1 x hx
  ·rename_i hk
   have hpq : klt p.1 q.1 := by
    refine bytes_tri (by simpa using hk) ?_
    rw [beq_eq_false_iff_ne]
    intro e
    refine hn q (by simp) ?_
    rw [ByteArray.toList_eq, ByteArray.toList_eq] at e
    exact ByteArray.ext (Array.toList_inj.1 e)
   refine List.pairwise_cons.2 ⟨fun x hx => ?_, h⟩
   rcases List.mem_cons.1 hx with rfl | hx
   ·exact hpq
   ·exact klt_trans hpq (h1 x hx)
theorem sortF_rises (l : List (ByteArray × ByteArray)) (hn : (l.map (·.1)).Nodup) : (sortF l).Pairwise fun x y => klt x.1 y.1 := by
 have key : ∀ (l out : List (ByteArray × ByteArray)), out.Pairwise (fun x y => klt x.1 y.1) → ((out ++ l).map (·.1)).Nodup → (l.foldl (fun out p => insF p out) out).Pairwise fun x y => klt x.1 y.1 := by
  intro l
  induction l with
  | nil => intro out h _; exact h
  | cons p l ih =>
   intro out h hd
   rw [List.foldl_cons]
   refine ih _ (insF_rises h fun q hq e => ?_) ?_
   ·rw [List.map_append, List.nodup_append] at hd
    exact hd.2.2 q.1 (List.mem_map.2 ⟨q, hq, rfl⟩) p.1 (by simp) e
   ·have hp : (insF p out ++ l).Perm (out ++ p :: l) := ((insF_perm p out).append_right l).trans (List.perm_middle (l₁ := out) (a := p) (l₂ := l)).symm
    exact (hp.map (·.1)).nodup_iff.2 hd
 exact key l [] .nil hn
abbrev Fl := ByteArray × ByteArray
def rowsF (l : List Fl) : List (List AV) := l.map fun p => [.str p.1, .str p.2]
theorem rowsF_len (l : List Fl) : (rowsF l).length = l.length := List.length_map _
theorem rowsF_at {l : List Fl} {k : Nat} {p : Fl} (h : l[k]? = some p) : (rowsF l)[k]? = some [.str p.1, .str p.2] := by simp [rowsF, h]
def fileE (pre : List Fl) (f : Fl) : Int := if nameC f.1 = false then 22 else if 65536 < f.2.size then 6 else if (pre.any fun g => decide (g.1 = f.1)) = true then 13 else 0
def filesE : List Fl → List Fl → ByteArray × Int
 | _, [] => (⟨#[]⟩, 0)
 | pre, f :: r => if fileE pre f ≠ 0 then (f.1, fileE pre f) else filesE (pre ++ [f]) r
def filesP (l : List Fl) : List Fl × ByteArray × Int := if 32 < l.length then ([], ⟨#[]⟩, 6) else if (filesE [] l).2 ≠ 0 then ([], (filesE [] l).1, (filesE [] l).2) else (sortF l, ⟨#[]⟩, 0)
theorem filesE_at {l : List Fl} {k : Nat} {f : Fl} (h : l[k]? = some f) : filesE (l.take k) (l.drop k) = if fileE (l.take k) f ≠ 0 then (f.1, fileE (l.take k) f) else filesE (l.take (k + 1)) (l.drop (k + 1)) := by
 obtain ⟨h1, h2⟩ := List.getElem?_eq_some_iff.1 h
 rw [List.drop_eq_getElem_cons h1, h2, filesE, List.take_add_one, h]
 rfl
theorem filesE_zero : ∀ (r pre : List Fl), (pre.map (·.1)).Nodup → (filesE pre r).2 = 0 → ((pre ++ r).map (·.1)).Nodup ∧ ∀ f ∈ r, nameC f.1 = true ∧ f.2.size ≤ 65536
 | [], pre, h, _ => ⟨by simpa using h, fun f hf => by cases hf⟩
 | f :: r, pre, h, he => by
  rw [filesE] at he
  by_cases hf : fileE pre f ≠ 0
  ·rw [if_pos hf] at he
   exact absurd he hf
  rw [if_neg hf] at he
  have hf : fileE pre f = 0 := by omega
  unfold fileE at hf
  split at hf
  ·cases hf
  rename_i h1
  split at hf
  ·cases hf
  rename_i h2
  split at hf
  ·cases hf
  rename_i h3
  have hnd : ((pre ++ [f]).map (·.1)).Nodup := by
   rw [List.map_append, List.nodup_append]
   refine ⟨h, by simp, fun a ha b hb e => ?_⟩
   rw [List.map_cons, List.map_nil, List.mem_singleton] at hb
   obtain ⟨g, hg, rfl⟩ := List.mem_map.1 ha
   exact h3 (List.any_eq_true.2 ⟨g, hg, by rw [e, hb]; simp⟩)
  obtain ⟨k1, k2⟩ := filesE_zero r (pre ++ [f]) hnd he
  refine ⟨by simpa using k1, fun g hg => ?_⟩
  rcases List.mem_cons.1 hg with rfl | hg
  ·exact ⟨by simpa using h1, by omega⟩
  ·exact k2 g hg
theorem filesP_ok {l : List Fl} (h : (filesP l).2.2 = 0) : l.length ≤ 32 ∧ (l.map (·.1)).Nodup ∧ (∀ f ∈ l, nameC f.1 = true ∧ f.2.size ≤ 65536) ∧ (filesP l).1 = sortF l ∧ (filesE [] l).2 = 0 := by
 unfold filesP at h ⊢
 split at h
 ·cases h
 rename_i h1
 split at h
 ·rename_i h2
  exact absurd h h2
 rename_i h2
 rw [if_neg h1, if_neg h2]
 obtain ⟨k1, k2⟩ := filesE_zero l [] (by simp) (by omega)
 exact ⟨by omega, by simpa using k1, k2, rfl, by omega⟩
end Go.Proofs.YtnpkejnaeemgjaaGreatDoor
namespace Go.Proofs.YtnpkejnaeemgjaaGreatDoor
set_option maxRecDepth 100000
def b_chart_Name : ACode :=
 .seq (gQ [⟨gO, .mov 2 (.k (.bool false))⟩]) (.seq (.seq (gQ [gM 5 0, ⟨gO, .call (some 6) (.k (.fn 90 [])) [.s 5, gS ⟨#[47]⟩]⟩, gH 7 false 6, gJ 8 0]) (.block 0 (.loop (.seq (gQ [gV 9 .lss 8 7]) (.seq (.cond (.s 9) .skip (.exit 0)) (.seq (.block 1 (.seq (gQ [gE 10 1 6 8, gL 11 10, gM 4 11]) (.seq (gQ [gM 12 4, ⟨gO, gB 13 .eql (.s 12) (gS ⟨#[]⟩)⟩, gM 14 13, gN 14 false 15 4, ⟨some (14, false), .bin 16 .eql false (.s 15) (gS ⟨#[46]⟩)⟩, ⟨gO, .pick 17 (.s 14) (.k (.bool true)) (.s 16)⟩, gM 18 17, gN 18 false 19 4, ⟨some (18, false), .bin 20 .eql false (.s 19) (gS ⟨#[46, 46]⟩)⟩, ⟨gO, .pick 21 (.s 18) (.k (.bool true)) (.s 20)⟩, gM 22 21, gN 22 false 23 4, ⟨some (22, false), .call (some 24) (.k (.fn 102 [])) [.s 23, gS ⟨#[95]⟩]⟩, ⟨some (22, false), .call (some 25) (.k (.fn 68 [])) [.s 24]⟩, ⟨some (22, false), .un 26 .not (.s 25)⟩, ⟨gO, .pick 27 (.s 22) (.k (.bool true)) (.s 26)⟩]) (.cond (.s 27) (.seq (gQ [⟨gO, .mov 2 (.k (.bool false))⟩]) .ret) .skip)))) (.reg [gU 28 .add 8 1, gM 8 28]))))))) (.seq (gQ [gM 29 0, gH 30 true 29, gU 31 .leq 30 256, gM 2 31]) .ret))
def a_chart_Name : AFn := ⟨1, 32, b_chart_Name, [.tmp 2]⟩
theorem a_chart_Name_ok : fnAF Tryz.prog [2000026, 2000027, 2000029, 2000008, 2000016, 2000065] Tryz.f61 = some a_chart_Name := by kernel_rfl
theorem a_chart_Name_cb : callable Tryz.prog 61 = true := by kernel_rfl
def b_chart_files : ACode :=
 .seq (gQ [⟨gO, .mov 2 (.k (.lst .nil 2 []))⟩, ⟨gO, .mov 3 (gS ⟨#[]⟩)⟩, gJ 4 0]) (.seq (.seq (gQ [gM 7 0, gH 8 false 7, gU 9 .gtr 8 32]) (.cond (.s 9) (.seq (gQ [⟨gO, .mov 2 (.k (.lst .nil 2 []))⟩, ⟨gO, .mov 3 (gS ⟨#[]⟩)⟩, gJ 4 6]) .ret) .skip)) (.seq (.seq (gQ [gM 10 0, gH 11 false 10, gJ 12 0]) (.block 0 (.loop (.seq (gQ [gV 13 .lss 12 11]) (.seq (.cond (.s 13) .skip (.exit 0)) (.seq (.block 1 (.seq (gQ [gM 14 12, gE 15 2 10 12, gA 16 2 15, ⟨gO, .alloc 6 [.str ⟨#[]⟩, .str ⟨#[]⟩]⟩, gM 5 14, gT 2 6 16]) (.block 2 (.seq (gQ [gF 18 0 6, gL 19 18, gC 20 61 [.s 19], ⟨gO, .un 21 .not (.s 20)⟩, gM 17 21]) (.cond (.s 17) (.seq (gQ [gF 22 0 6, gL 23 22, ⟨gO, .mov 2 (.k (.lst .nil 2 []))⟩, gM 3 23, gJ 4 22]) .ret) (.seq (gQ [gF 25 1 6, gL 26 25, gH 27 true 26, gU 28 .gtr 27 65536, gM 24 28]) (.cond (.s 24) (.seq (gQ [gF 29 0 6, gL 30 29, ⟨gO, .mov 2 (.k (.lst .nil 2 []))⟩, gM 3 30, gJ 4 6]) .ret) (.seq (gQ [gM 32 0, gM 33 5, ⟨gO, .sub 34 false 2 (.s 32) none (some (.s 33))⟩, ⟨gO, .mkfn 35 63 [.s 6]⟩, gC 36 62 [.s 34, .s 35], gM 31 36]) (.cond (.s 31) (.seq (gQ [gF 37 0 6, gL 38 37, ⟨gO, .mov 2 (.k (.lst .nil 2 []))⟩, gM 3 38, gJ 4 13]) .ret) .skip))))))))) (.reg [gU 39 .add 12 1, gM 12 39]))))))) (.seq (gQ [gM 40 0, gC 41 64 [.s 40], gM 0 41]) (.seq (gQ [gM 42 0, ⟨gO, .calls (some 43) (.k (.fn 65 [])) [.s 42, .k (.fn 66 [])]⟩]) (.seq (gQ [gM 44 0, gM 2 44, ⟨gO, .mov 3 (gS ⟨#[]⟩)⟩, gJ 4 0]) .ret)))))
def a_chart_files : AFn := ⟨1, 45, b_chart_files, [.tmp 2, .tmp 3, .tmp 4]⟩
theorem a_chart_files_ok : fnAF Tryz.prog [2000026, 2000027, 2000029, 2000008, 2000016, 2000065] Tryz.f25 = some a_chart_files := by kernel_rfl
theorem a_chart_files_cb : callable Tryz.prog 25 = true := by kernel_rfl
def b_chart_files_1 : ACode :=
 .seq (gQ [gP 2 0, ⟨gO, .mov 3 (.k (.bool false))⟩]) (.seq (gQ [gF 4 0 2, gL 5 4, gF 6 0 1, gL 7 6, gV 8 .eql 5 7, gM 3 8]) .ret)
def a_chart_files_1 : AFn := ⟨1, 9, b_chart_files_1, [.tmp 3]⟩
theorem a_chart_files_1_ok : fnAF Tryz.prog [2000026, 2000027, 2000029, 2000008, 2000016, 2000065] Tryz.f63 = some a_chart_files_1 := by kernel_rfl
theorem a_chart_files_1_cb : callable Tryz.prog 63 = true := by kernel_rfl
def b_slices_ContainsFunc_File : ACode :=
 .seq (gQ [⟨gO, .mov 4 (.k (.bool false))⟩]) (.seq (gQ [gM 5 0, gM 6 1, gC 7 103 [.s 5, .s 6], gU 8 .geq 7 0, gM 4 8]) .ret)
def a_slices_ContainsFunc_File : AFn := ⟨2, 9, b_slices_ContainsFunc_File, [.tmp 4]⟩
theorem a_slices_ContainsFunc_File_ok : fnAF Tryz.prog [2000026, 2000027, 2000029, 2000008, 2000016, 2000065] Tryz.f62 = some a_slices_ContainsFunc_File := by kernel_rfl
theorem a_slices_ContainsFunc_File_cb : callable Tryz.prog 62 = true := by kernel_rfl
def b_slices_IndexFunc_File : ACode :=
 .seq (gQ [gJ 4 0]) (.seq (.seq (gQ [gM 6 0, gH 7 false 6, gJ 8 0]) (.block 0 (.loop (.seq (gQ [gV 9 .lss 8 7]) (.seq (.cond (.s 9) .skip (.exit 0)) (.seq (.block 1 (.seq (gQ [gM 10 8, gM 5 10]) (.seq (gQ [gM 11 1, gM 12 0, gM 13 5, gE 14 2 12 13, gA 15 2 14, ⟨gO, .call (some 16) (.s 11) [.s 15]⟩]) (.cond (.s 16) (.seq (gQ [gM 17 5, gM 4 17]) .ret) .skip)))) (.reg [gU 18 .add 8 1, gM 8 18]))))))) (.seq (gQ [⟨gO, .mov 4 (.k (.int .i64 (-1)))⟩]) .ret))
def a_slices_IndexFunc_File : AFn := ⟨2, 19, b_slices_IndexFunc_File, [.tmp 4]⟩
theorem a_slices_IndexFunc_File_ok : fnAF Tryz.prog [2000026, 2000027, 2000029, 2000008, 2000016, 2000065] Tryz.f103 = some a_slices_IndexFunc_File := by kernel_rfl
theorem a_slices_IndexFunc_File_cb : callable Tryz.prog 103 = true := by kernel_rfl
theorem a_slices_Clone_File_cb : callable Tryz.prog 64 = true := by kernel_rfl
end Go.Proofs.YtnpkejnaeemgjaaGreatDoor
namespace Go.Proofs.YtnpkejnaeemgjaaGreatDoor
open Go.RowKit
def zeroFl : Value := .agg #[.string ⟨#[]⟩, .string ⟨#[]⟩]
theorem info_file : (Tryz.prog.info? 36).map (fun i => (i.zero, i.size, i.bytes)) = some (some zeroFl, 2, 32) := by kernel_rfl
set_option maxRecDepth 100000 in
theorem cloneFl_mf (rows : List (List AV)) (hne : 0 < rows.length) (hb : rows.length * 32 ≤ 140737488355328) : MF Tryz.prog 64 [.lst .any 2 rows] 2 rows := by
 refine ⟨a_slices_Clone_File_cb, fun σ w vs hh hr hg => ?_⟩
 obtain ⟨v, rfl⟩ := List.length_eq_one_iff.1 hr.1
 have h1 : Rel1 σ v (.lst .any 2 rows) := hr.2 0 v _ rfl rfl
 obtain ⟨A, cap, b, o, news, rfl, hcap, hA, hsz, hnl, hrel, hcell⟩ := lst_cells h1
 have := hA hne
 subst this
 obtain ⟨i0, hi0, hz0, hzs, hzb⟩ := info_parts info_file
 obtain ⟨zs, hz1, hz2, hrun⟩ : ∃ zs : List Value, (∀ u ∈ zs, u.oneCell' = true) ∧ rows.length * 2 + zs.length = grownCap (w.alloc (.cells #[] 36)) (0 + rows.length) 0 36 * 2 ∧
   ∀ ty, (Builtin.append_ #[61, 61] ty #[.slice (some ⟨w.heap.size, 0, none⟩) 0 0, .slice (some ⟨b, o, none⟩) rows.length cap]).run Tryz.prog (w.alloc (.cells #[] 36)) =
    .ok (.slice (some ⟨w.heap.size + 1, 0, none⟩) rows.length (grownCap (w.alloc (.cells #[] 36)) (0 + rows.length) 0 36)) ((w.alloc (.cells #[] 36)).drew.alloc (.cells (news ++ zs).toArray 36)) := by
  have hge := grownCap_ge (w.alloc (.cells #[] 36)) (0 + rows.length) 0 36
  refine ⟨(Builtin.zeroCells zeroFl.cells (grownCap (w.alloc (.cells #[] 36)) (0 + rows.length) 0 36 - (0 + rows.length))).toList, zeros_one (by simp [zeroFl, Value.cells, Value.oneCell']) _, ?_, fun ty => ?_⟩
  ·have : (zeroFl.cells).size = 2 := rfl
   simp only [Array.length_toList, size_zeroCells, this]
   rw [← Nat.add_mul]
   congr 1
   omega
  ·have := run_append_grow (w.alloc (.cells #[] 36)) 61 ty 36 i0 _ Tryz.underlying61 hi0 hz0 ⟨w.heap.size, 0, none⟩ 0 0 [] (by simp) (fun j v h => by simp at h) ⟨b, o, none⟩ rows.length cap news (by rw [hzs]; exact hnl)
    (fun j v hj => by
     rw [Addr.add_lit]
     have h2 := hh _ _ _ (hcell j v hj)
     rw [World.cell?_alloc_lt w _ _ (World.block_lt_of_cell? w _ h2)]
     exact h2) (by omega) (by omega) (by rw [hzb]; exact growslice_fits (by omega) (by omega))
   rw [this]
   simp
   congr 2
   apply Array.ext'
   simp
 have q24 : ∀ (w : World) (a : Option Addr) (n c : Nat), (binOp .eql 61 (.slice a n c) (.slice none 0 0)).run Tryz.prog w = .ok (.bool a.isNone) w := fun w a n c => by simp [binOp, run_equal_slice_nil w _ _ a n c Tryz.underlying61]
 go_enter Tryz.func64, Tryz.ntmps64
 go_wp2_with (at_builtin; refine Lib.wpList_append_run _ rfl _ _ _ _ rfl _ _ rfl rfl _ _ (hrun _) ?_)
 go_wp2
 go_ret
 have hge := grownCap_ge (w.alloc (.cells #[] 36)) (0 + rows.length) 0 36
 have hbl : Below w.heap.size w ((w.alloc (.cells #[] 36)).drew.alloc (.cells (news ++ zs).toArray 36)) := (((Below.refl _ _).alloc (Nat.le_refl _) _).drew).alloc (by simp) _
 exact ⟨σ, w.heap.size + 1, _, rfl, Ext.refl _ _, fun b q v hv => (hbl.cell (p := ⟨b, q, none⟩) (World.block_lt_of_cell? w _ (hh _ _ _ hv))).trans (hh _ _ _ hv), hbl, by omega,
  by
   have := FRowW.new (w1 := (w.alloc (.cells #[] 36)).drew) hh (by simp) (e := 36) hrel hsz hnl hz1 (by rw [hnl]; exact hz2) (by omega)
   have e : (w.alloc (.cells #[] 36)).drew.heap.size = w.heap.size + 1 := by simp
   rw [e, Nat.zero_add] at this
   exact this⟩
set_option maxRecDepth 100000 in
theorem cloneFl_nil : AC Tryz.prog 64 [.lst .any 2 []] (.lst .any 2 []) := by
 refine ⟨a_slices_Clone_File_cb, fun σ w vs hh hr hg => ?_⟩
 obtain ⟨v, rfl⟩ := List.length_eq_one_iff.1 hr.1
 have h1 : Rel1 σ v (.lst .any 2 []) := hr.2 0 v _ rfl rfl
 obtain ⟨A, cap, b, o, news, rfl, _⟩ := lst_cells h1
 have q24 : ∀ (w : World) (a : Option Addr) (n c : Nat), (binOp .eql 61 (.slice a n c) (.slice none 0 0)).run Tryz.prog w = .ok (.bool a.isNone) w := fun w a n c => by simp [binOp, run_equal_slice_nil w _ _ a n c Tryz.underlying61]
 obtain ⟨i0, hi0, _⟩ := info_parts info_file
 have hrel : ∀ (A : Option Addr) (cap : Nat), RelR σ (.slice A 0 cap) (.lst .any 2 []) := fun A cap => .lst .any 2 [] A 0 cap 0 0 (fun _ _ => undef) rfl (by omega) (fun h => by omega) (fun i c h => by simp at h) (fun i j h => by omega) (fun i j c a h => by simp at h) trivial
 cases A with
 | none =>
  go_enter Tryz.func64, Tryz.ntmps64
  go_wp2
  go_ret
  exact ⟨σ, _, rfl, Ext.refl _ _, hh, Below.refl _ _, hrel none 0⟩
 | some a =>
  have hrun := fun ty => run_append_zero (P := Tryz.prog) (w.alloc (.cells #[] 36)) 61 ty 36 Tryz.underlying61 hi0 (some ⟨w.heap.size, 0, none⟩) (some a) 0 0 cap (by omega)
  go_enter Tryz.func64, Tryz.ntmps64
  go_wp2_with (at_builtin; refine Lib.wpList_append_run _ rfl _ _ _ _ rfl _ _ rfl rfl _ _ (hrun _) ?_)
  go_wp2
  go_ret
  have hbl : Below w.heap.size w (w.alloc (.cells #[] 36)) := (Below.refl _ _).alloc (Nat.le_refl _) _
  exact ⟨σ, _, rfl, Ext.refl _ _, fun b q v hv => (hbl.cell (p := ⟨b, q, none⟩) (World.block_lt_of_cell? w _ (hh _ _ _ hv))).trans (hh _ _ _ hv), hbl, hrel _ _⟩
end Go.Proofs.YtnpkejnaeemgjaaGreatDoor
