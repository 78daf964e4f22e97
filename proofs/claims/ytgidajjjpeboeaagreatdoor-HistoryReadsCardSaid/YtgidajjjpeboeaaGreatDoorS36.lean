/-
  The texts that the claim wants, one behind the other: part 36.
-/
import Derived.Test.YtgidajjjpeboeaaGreatDoorS35
import Derived.Test.YtgidajjjpeboeaaGreatDoorChecked
import Derived.KernelRfl
set_option linter.unusedSimpArgs false
set_option linter.unusedVariables false
namespace Go.Proofs.YtgidajjjpeboeaaGreatDoor
set_option maxRecDepth 100000
def b_tree_Same : ACode :=
 .seq (gQ [gP 2 0, gP 3 1, ⟨gO, .mov 4 (.k (.bool false))⟩]) (.seq (gQ [gA 5 6 2, gA 6 6 3, gC 7 136 [.s 5, .s 6], gU 8 .eql 7 0, gM 4 8]) .ret)
def a_tree_Same : AFn := ⟨2, 9, b_tree_Same, [.tmp 4]⟩
theorem a_tree_Same_ok : fnAF Tryz.prog [] Tryz.f87 = some a_tree_Same := by kernel_rfl
theorem a_tree_Same_cb : callable Tryz.prog 87 = true := by kernel_rfl
def b_tree_Compare : ACode :=
 .seq (gQ [gP 2 0, gP 3 1, gJ 4 0]) (.seq (.seq (gQ [gF 6 0 2, gL 7 6, gF 8 0 3, gL 9 8, gC 10 54 [.s 7, .s 9], gM 5 10]) (.seq (gQ [gM 11 5, gU 12 .neq 11 0]) (.cond (.s 12) (.seq (gQ [gM 13 5, gM 4 13]) .ret) .skip))) (.seq (.seq (gQ [gF 14 0 2, gL 15 14]) (.block 0 (.seq (gQ [gU 17 .eql 15 1, gM 16 17]) (.cond (.s 16) (.seq (.block 1 (.seq (gQ [gF 19 1 2, gL 20 19, gF 21 1 3, gL 22 21, ⟨gO, .bin 23 .eql true (.s 20) (.s 22)⟩, gM 18 23]) (.cond (.s 18) (.seq (gQ [gJ 4 0]) .ret) (.seq (gQ [gF 25 1 3, gL 26 25, gM 24 26]) (.cond (.s 24) (.seq (gQ [⟨gO, .mov 4 (.k (.int .i64 (-1)))⟩]) .ret) .skip))))) (.seq (gQ [gJ 4 1]) .ret)) (.seq (gQ [gU 28 .eql 15 2, gM 27 28]) (.cond (.s 27) (.seq (gQ [gF 29 2 2, gL 30 29, gF 31 2 3, gL 32 31, gC 33 179 [.s 30, .s 32], gM 4 33]) .ret) (.seq (gQ [gU 35 .eql 15 3, gM 34 35]) (.cond (.s 34) (.seq (gQ [gF 36 3 2, gL 37 36, gF 38 3 3, gL 39 38, gC 40 103 [.s 37, .s 39], gM 4 40]) .ret) (.seq (gQ [gU 42 .eql 15 4, gM 41 42]) (.cond (.s 41) (.seq (gQ [gF 43 4 2, gL 44 43, gF 45 4 3, gL 46 45, ⟨gO, .call (some 47) (.k (.fn 180 [])) [.s 44, .s 46, .k (.fn 136 [])]⟩, gM 4 47]) .ret) (.seq (gQ [gU 49 .eql 15 5, gM 48 49]) (.cond (.s 48) (.seq (gQ [gF 50 5 2, gL 51 50, gF 52 5 3, gL 53 52, ⟨gO, .call (some 54) (.k (.fn 181 [])) [.s 51, .s 53, .k (.fn 182 [])]⟩, gM 4 54]) .ret) .skip)))))))))))) (.seq (gQ [gJ 4 0]) .ret)))
def a_tree_Compare : AFn := ⟨2, 55, b_tree_Compare, [.tmp 4]⟩
theorem a_tree_Compare_ok : fnAF Tryz.prog [] Tryz.f136 = some a_tree_Compare := by kernel_rfl
theorem a_tree_Compare_cb : callable Tryz.prog 136 = true := by kernel_rfl
def b_tree_Compare_1 : ACode :=
 .seq (gQ [gP 2 0, gP 3 1, gJ 4 0]) (.seq (gQ [gF 5 0 2, gL 6 5, gF 7 0 3, gL 8 7, gC 9 103 [.s 6, .s 8], gF 10 1 2, gA 11 6 10, gF 12 1 3, gA 13 6 12, gC 14 136 [.s 11, .s 13], ⟨gO, .bsl 15 2 1 [.int .i64 0, .int .i64 0] [(0, 1, .s 9), (1, 1, .s 14)]⟩, gC 16 74 [.s 15], gM 4 16]) .ret)
def a_tree_Compare_1 : AFn := ⟨2, 17, b_tree_Compare_1, [.tmp 4]⟩
theorem a_tree_Compare_1_ok : fnAF Tryz.prog [] Tryz.f182 = some a_tree_Compare_1 := by kernel_rfl
theorem a_tree_Compare_1_cb : callable Tryz.prog 182 = true := by kernel_rfl
def b_cmp_Compare_int : ACode :=
 .seq (gQ [gJ 4 0]) (.seq (gQ [gM 7 0, gC 8 90 [.s 7], gM 5 8]) (.seq (gQ [gM 9 1, gC 10 90 [.s 9], gM 6 10]) (.seq (.seq (gQ [gM 11 5]) (.cond (.s 11) (.seq (.seq (gQ [gM 12 6]) (.cond (.s 12) (.seq (gQ [gJ 4 0]) .ret) .skip)) (.seq (gQ [⟨gO, .mov 4 (.k (.int .i64 (-1)))⟩]) .ret)) .skip)) (.seq (.seq (gQ [gM 13 6]) (.cond (.s 13) (.seq (gQ [gJ 4 1]) .ret) .skip)) (.seq (.seq (gQ [gM 14 0, gM 15 1, gV 16 .lss 14 15]) (.cond (.s 16) (.seq (gQ [⟨gO, .mov 4 (.k (.int .i64 (-1)))⟩]) .ret) .skip)) (.seq (.seq (gQ [gM 17 0, gM 18 1, gV 19 .gtr 17 18]) (.cond (.s 19) (.seq (gQ [gJ 4 1]) .ret) .skip)) (.seq (gQ [gJ 4 0]) .ret)))))))
def a_cmp_Compare_int : AFn := ⟨2, 20, b_cmp_Compare_int, [.tmp 4]⟩
theorem a_cmp_Compare_int_ok : fnAF Tryz.prog [] Tryz.f54 = some a_cmp_Compare_int := by kernel_rfl
theorem a_cmp_Compare_int_cb : callable Tryz.prog 54 = true := by kernel_rfl
def b_cmp_Compare_int64 : ACode :=
 .seq (gQ [gJ 4 0]) (.seq (gQ [gM 7 0, gC 8 197 [.s 7], gM 5 8]) (.seq (gQ [gM 9 1, gC 10 197 [.s 9], gM 6 10]) (.seq (.seq (gQ [gM 11 5]) (.cond (.s 11) (.seq (.seq (gQ [gM 12 6]) (.cond (.s 12) (.seq (gQ [gJ 4 0]) .ret) .skip)) (.seq (gQ [⟨gO, .mov 4 (.k (.int .i64 (-1)))⟩]) .ret)) .skip)) (.seq (.seq (gQ [gM 13 6]) (.cond (.s 13) (.seq (gQ [gJ 4 1]) .ret) .skip)) (.seq (.seq (gQ [gM 14 0, gM 15 1, gV 16 .lss 14 15]) (.cond (.s 16) (.seq (gQ [⟨gO, .mov 4 (.k (.int .i64 (-1)))⟩]) .ret) .skip)) (.seq (.seq (gQ [gM 17 0, gM 18 1, gV 19 .gtr 17 18]) (.cond (.s 19) (.seq (gQ [gJ 4 1]) .ret) .skip)) (.seq (gQ [gJ 4 0]) .ret)))))))
def a_cmp_Compare_int64 : AFn := ⟨2, 20, b_cmp_Compare_int64, [.tmp 4]⟩
theorem a_cmp_Compare_int64_ok : fnAF Tryz.prog [] Tryz.f179 = some a_cmp_Compare_int64 := by kernel_rfl
theorem a_cmp_Compare_int64_cb : callable Tryz.prog 179 = true := by kernel_rfl
def b_cmp_isNaN_int : ACode :=
 .seq (gQ [⟨gO, .mov 2 (.k (.bool false))⟩]) (.seq (gQ [gM 3 0, gM 4 0, gV 5 .neq 3 4, gM 2 5]) .ret)
def a_cmp_isNaN_int : AFn := ⟨1, 6, b_cmp_isNaN_int, [.tmp 2]⟩
theorem a_cmp_isNaN_int_ok : fnAF Tryz.prog [] Tryz.f90 = some a_cmp_isNaN_int := by kernel_rfl
theorem a_cmp_isNaN_int_cb : callable Tryz.prog 90 = true := by kernel_rfl
def b_cmp_isNaN_int64 : ACode :=
 .seq (gQ [⟨gO, .mov 2 (.k (.bool false))⟩]) (.seq (gQ [gM 3 0, gM 4 0, gV 5 .neq 3 4, gM 2 5]) .ret)
def a_cmp_isNaN_int64 : AFn := ⟨1, 6, b_cmp_isNaN_int64, [.tmp 2]⟩
theorem a_cmp_isNaN_int64_ok : fnAF Tryz.prog [] Tryz.f197 = some a_cmp_isNaN_int64 := by kernel_rfl
theorem a_cmp_isNaN_int64_cb : callable Tryz.prog 197 = true := by kernel_rfl
def b_cmp_Or_int : ACode :=
 .seq (gQ [gJ 2 0]) (.seq (gQ [gJ 3 0]) (.seq (.seq (gQ [gM 6 0, gH 7 false 6, gJ 8 0]) (.block 0 (.loop (.seq (gQ [gV 9 .lss 8 7]) (.seq (.cond (.s 9) .skip (.exit 0)) (.seq (.block 1 (.seq (gQ [gE 10 1 6 8, gL 11 10, gM 5 11]) (.seq (gQ [gM 12 5, gM 13 3, gV 14 .neq 12 13]) (.cond (.s 14) (.seq (gQ [gM 15 5, gM 2 15]) .ret) .skip)))) (.reg [gU 16 .add 8 1, gM 8 16]))))))) (.seq (gQ [gM 17 3, gM 2 17]) .ret)))
def a_cmp_Or_int : AFn := ⟨1, 18, b_cmp_Or_int, [.tmp 2]⟩
theorem a_cmp_Or_int_ok : fnAF Tryz.prog [] Tryz.f74 = some a_cmp_Or_int := by kernel_rfl
theorem a_cmp_Or_int_cb : callable Tryz.prog 74 = true := by kernel_rfl
def b_slices_CompareFunc_Value : ACode :=
 .seq (gQ [gJ 6 0]) (.seq (.seq (gQ [gM 11 0, gH 12 false 11, gJ 13 0]) (.block 0 (.loop (.seq (gQ [gV 14 .lss 13 12]) (.seq (.cond (.s 14) .skip (.exit 0)) (.seq (.block 1 (.seq (gQ [gM 15 13, gE 16 6 11 13, gA 17 6 16, ⟨gO, .alloc 8 gZ⟩, gM 7 15, gT 6 8 17]) (.seq (.seq (gQ [gM 18 7, gM 19 1, gH 20 false 19, gV 21 .geq 18 20]) (.cond (.s 21) (.seq (gQ [gJ 6 1]) .ret) .skip)) (.seq (gQ [gM 22 1, gM 23 7, gE 24 6 22 23, gA 25 6 24, ⟨gO, .alloc 9 gZ⟩, gT 6 9 25]) (.seq (gQ [gM 26 2, gA 27 6 8, gA 28 6 9, ⟨gO, .call (some 29) (.s 26) [.s 27, .s 28]⟩, gM 10 29]) (.seq (gQ [gM 30 10, gU 31 .neq 30 0]) (.cond (.s 31) (.seq (gQ [gM 32 10, gM 6 32]) .ret) .skip))))))) (.reg [gU 33 .add 13 1, gM 13 33]))))))) (.seq (.seq (gQ [gM 34 0, gH 35 false 34, gM 36 1, gH 37 false 36, gV 38 .lss 35 37]) (.cond (.s 38) (.seq (gQ [⟨gO, .mov 6 (.k (.int .i64 (-1)))⟩]) .ret) .skip)) (.seq (gQ [gJ 6 0]) .ret)))
def a_slices_CompareFunc_Value : AFn := ⟨3, 39, b_slices_CompareFunc_Value, [.tmp 6]⟩
theorem a_slices_CompareFunc_Value_ok : fnAF Tryz.prog [] Tryz.f180 = some a_slices_CompareFunc_Value := by kernel_rfl
theorem a_slices_CompareFunc_Value_cb : callable Tryz.prog 180 = true := by kernel_rfl
def b_slices_CompareFunc_Pair : ACode :=
 .seq (gQ [gJ 6 0]) (.seq (.seq (gQ [gM 11 0, gH 12 false 11, gJ 13 0]) (.block 0 (.loop (.seq (gQ [gV 14 .lss 13 12]) (.seq (.cond (.s 14) .skip (.exit 0)) (.seq (.block 1 (.seq (gQ [gM 15 13, gE 16 7 11 13, gA 17 7 16, ⟨gO, .alloc 8 [.str ⟨#[]⟩, .int .i64 0, .bool false, .int .i64 0, .str ⟨#[]⟩, .lst .nil 6 [], .lst .nil 7 []]⟩, gM 7 15, gT 7 8 17]) (.seq (.seq (gQ [gM 18 7, gM 19 1, gH 20 false 19, gV 21 .geq 18 20]) (.cond (.s 21) (.seq (gQ [gJ 6 1]) .ret) .skip)) (.seq (gQ [gM 22 1, gM 23 7, gE 24 7 22 23, gA 25 7 24, ⟨gO, .alloc 9 [.str ⟨#[]⟩, .int .i64 0, .bool false, .int .i64 0, .str ⟨#[]⟩, .lst .nil 6 [], .lst .nil 7 []]⟩, gT 7 9 25]) (.seq (gQ [gM 26 2, gA 27 7 8, gA 28 7 9, ⟨gO, .call (some 29) (.s 26) [.s 27, .s 28]⟩, gM 10 29]) (.seq (gQ [gM 30 10, gU 31 .neq 30 0]) (.cond (.s 31) (.seq (gQ [gM 32 10, gM 6 32]) .ret) .skip))))))) (.reg [gU 33 .add 13 1, gM 13 33]))))))) (.seq (.seq (gQ [gM 34 0, gH 35 false 34, gM 36 1, gH 37 false 36, gV 38 .lss 35 37]) (.cond (.s 38) (.seq (gQ [⟨gO, .mov 6 (.k (.int .i64 (-1)))⟩]) .ret) .skip)) (.seq (gQ [gJ 6 0]) .ret)))
def a_slices_CompareFunc_Pair : AFn := ⟨3, 39, b_slices_CompareFunc_Pair, [.tmp 6]⟩
theorem a_slices_CompareFunc_Pair_ok : fnAF Tryz.prog [] Tryz.f181 = some a_slices_CompareFunc_Pair := by kernel_rfl
theorem a_slices_CompareFunc_Pair_cb : callable Tryz.prog 181 = true := by kernel_rfl
end Go.Proofs.YtgidajjjpeboeaaGreatDoor
namespace Go.Proofs.YtgidajjjpeboeaaGreatDoor
open Go.RowKit
def cmpI (a b : Int) : Int := if a < b then -1 else if b < a then 1 else 0
def cmpBo (a b : Bool) : Int := if (a == b) = true then 0 else if b = true then -1 else 1
def cmpOr (c d : Int) : Int := if c ≠ 0 then c else d
mutual
def V.cmpC : V → V → Int
 | .mk k b n s l m, w => if cmpI k w.kind ≠ 0 then cmpI k w.kind else if k = 1 then cmpBo b w.b else if k = 2 then cmpI n w.n else if k = 3 then cmpS s w.s else if k = 4 then cmpL l w.l else if k = 5 then cmpM m w.m else 0
def cmpL : List V → List V → Int
 | [], [] => 0
 | [], _ :: _ => -1
 | _ :: _, [] => 1
 | x :: l, y :: w => if x.cmpC y ≠ 0 then x.cmpC y else cmpL l w
def cmpM : List (ByteArray × V) → List (ByteArray × V) → Int
 | [], [] => 0
 | [], _ :: _ => -1
 | _ :: _, [] => 1
 | (p, x) :: l, (q, y) :: w => if cmpOr (cmpS p q) (x.cmpC y) ≠ 0 then cmpOr (cmpS p q) (x.cmpC y) else cmpM l w
end
theorem V.cmpC_eq (v w : V) : v.cmpC w = if cmpI v.kind w.kind ≠ 0 then cmpI v.kind w.kind else if v.kind = 1 then cmpBo v.b w.b else if v.kind = 2 then cmpI v.n w.n else if v.kind = 3 then cmpS v.s w.s else if v.kind = 4 then cmpL v.l w.l else if v.kind = 5 then cmpM v.m w.m else 0 := by
 cases v; rw [V.cmpC]; rfl
theorem cmpI_eq {a b : Int} : cmpI a b = 0 ↔ a = b := by
 unfold cmpI
 split
 ·simp; omega
 ·split
  ·simp; omega
  ·simp; omega
theorem cmpBo_eq {a b : Bool} : cmpBo a b = 0 ↔ a = b := by cases a <;> cases b <;> simp [cmpBo]
theorem cmp_eq_all (n : Nat) : ∀ a b : V, a.size ≤ n → a.good → b.good → (a.cmpC b = 0 ↔ a = b) := by
 induction n with
 | zero => intro v _ h; have := v.size_pos; omega
 | succ n ih =>
  intro a b hn ha hb
  have e := a.size_eq
  have ka := (a.good_eq.1 ha).1
  have kb := (b.good_eq.1 hb).1
  have hL : ∀ l w : List V, sizeL l ≤ n → (∀ x ∈ l, x.good) → (∀ x ∈ w, x.good) → (cmpL l w = 0 ↔ l = w) := by
   intro l
   induction l with
   | nil => intro w _ _ _; cases w <;> simp [cmpL]
   | cons x l ihl =>
    intro w hs h1 h2
    simp only [sizeL] at hs
    cases w with
    | nil => simp [cmpL]
    | cons y w =>
     have i1 := ih x y (by omega) (h1 x (by simp)) (h2 y (by simp))
     have i2 := ihl w (by omega) (fun z hz => h1 z (by simp [hz])) (fun z hz => h2 z (by simp [hz]))
     rw [cmpL]
     split
     ·rename_i h
      constructor
      ·intro h'; exact absurd h' h
      ·intro h'; cases h'; exact absurd (i1.2 rfl) h
     ·rename_i h
      obtain rfl := i1.1 (by simpa using h)
      simp [i2]
  have hM : ∀ l w : List (ByteArray × V), sizeM l ≤ n → (∀ p ∈ l, p.2.good) → (∀ p ∈ w, p.2.good) → (cmpM l w = 0 ↔ l = w) := by
   intro l
   induction l with
   | nil => intro w _ _ _; cases w <;> simp [cmpM]
   | cons p l ihl =>
    obtain ⟨p, x⟩ := p
    intro w hs h1 h2
    simp only [sizeM] at hs
    cases w with
    | nil => simp [cmpM]
    | cons q w =>
     obtain ⟨q, y⟩ := q
     have i1 := ih x y (by omega) (h1 (p, x) (by simp)) (h2 (q, y) (by simp))
     have i2 := ihl w (by omega) (fun z hz => h1 z (by simp [hz])) (fun z hz => h2 z (by simp [hz]))
     have i3 : cmpOr (cmpS p q) (x.cmpC y) = 0 ↔ p = q ∧ x = y := by
      unfold cmpOr
      split
      ·rename_i h
       constructor
       ·intro h'; exact absurd h' h
       ·intro h'; exact absurd (cmpS_eq.2 h'.1) h
      ·rename_i h
       have := cmpS_eq.1 (show cmpS p q = 0 by simpa using h)
       simp [i1, this]
     rw [cmpM]
     split
     ·rename_i h
      constructor
      ·intro h'; exact absurd h' h
      ·intro h'; cases h'; exact absurd (i3.2 ⟨rfl, rfl⟩) h
     ·rename_i h
      obtain ⟨rfl, rfl⟩ := i3.1 (Decidable.not_not.1 h)
      simp [i2]
  have iL := hL a.l b.l (by omega) (fun x hx => good_l ha hx) (fun x hx => good_l hb hx)
  have iM := hM a.m b.m (by omega) (fun x hx => good_m ha hx) (fun x hx => good_m hb hx)
  rw [V.cmpC_eq, V.ext_iff']
  simp only [kbad, Bool.or_eq_false_iff, Bool.and_eq_false_iff, decide_eq_false_iff_not, Decidable.not_not, Nat.not_lt, Nat.le_zero, List.length_eq_zero_iff] at ka kb
  obtain ⟨⟨⟨⟨⟨⟨a0, a00⟩, a1⟩, a2⟩, a3⟩, a4⟩, a5⟩ := ka
  obtain ⟨⟨⟨⟨⟨⟨b0, b00⟩, b1⟩, b2⟩, b3⟩, b4⟩, b5⟩ := kb
  split
  ·rename_i h
   constructor
   ·intro h'; exact absurd h' h
   ·rintro ⟨h', _⟩; exact absurd (cmpI_eq.2 h') h
  ·rename_i h
   have hk : a.kind = b.kind := cmpI_eq.1 (by simpa using h)
   have := @cmpBo_eq a.b b.b
   have := @cmpI_eq a.n b.n
   have := @cmpS_eq a.s b.s
   rw [← hk] at b1 b2 b3 b4 b5 ⊢
   have hkk : a.kind = 0 ∨ a.kind = 1 ∨ a.kind = 2 ∨ a.kind = 3 ∨ a.kind = 4 ∨ a.kind = 5 := by omega
   clear ih hL hM hn e ha hb h hk b0 b00 a0 a00
   rcases hkk with h0 | h0 | h0 | h0 | h0 | h0 <;> simp [h0] at a1 a2 a3 a4 a5 b1 b2 b3 b4 b5 ⊢ <;> simp [*]
theorem V.cmp_eq {a b : V} (ha : a.good) (hb : b.good) : a.cmpC b = 0 ↔ a = b := cmp_eq_all a.size a b (Nat.le_refl _) ha hb
theorem V.cmp_same {a b : V} (ha : a.good) (hb : b.good) : decide (a.cmpC b = 0) = a.sameB b := by
 rw [V.sameB, decide_eq_decide]; exact V.cmp_eq ha hb
end Go.Proofs.YtgidajjjpeboeaaGreatDoor
/-
 The program's comparison of values, walked.
-/
namespace Go.Proofs.YtgidajjjpeboeaaGreatDoor
open Go.RowKit
theorem isNaN_a (n : Int) : AC Tryz.prog 90 [.int .i64 n] (.bool false) := by
 refine kE Tryz.func90 a_cmp_isNaN_int_ok a_cmp_isNaN_int_cb fun E hE => ?_
 refine kW ?_
 refine AK.ret ⟨_, rfl, ?_⟩
 exact congrArg AV.bool (by simp)
theorem isNaN64_a (n : Int) : AC Tryz.prog 197 [.int .i64 n] (.bool false) := by
 refine kE Tryz.func197 a_cmp_isNaN_int64_ok a_cmp_isNaN_int64_cb fun E hE => ?_
 refine kW ?_
 refine AK.ret ⟨_, rfl, ?_⟩
 exact congrArg AV.bool (by simp)
theorem cmpInt_a (a b : Int) : AC Tryz.prog 54 [.int .i64 a, .int .i64 b] (.int .i64 (cmpI a b)) := by
 refine kE Tryz.func54 a_cmp_Compare_int_ok a_cmp_Compare_int_cb fun E hE => ?_
 refine kW ?_
 refine kP [.v (.bool false)] ?_ ?_
 ·((repeat' apply And.intro) <;> first | exact kD | (intro hgd; refine ⟨?_, kG⟩; (repeat' apply And.intro) <;> first | exact kD | skip) | skip)
  ·exact isNaN_a a
 refine kW ?_
 refine kP [.v (.bool false)] ?_ ?_
 ·((repeat' apply And.intro) <;> first | exact kD | (intro hgd; refine ⟨?_, kG⟩; (repeat' apply And.intro) <;> first | exact kD | skip) | skip)
  ·exact isNaN_a b
 refine kW ?_
 refine kC (fun hb => ?_) fun hb => ?_
 ·cases hb
 refine kW ?_
 refine kC (fun hb => ?_) fun hb => ?_
 ·cases hb
 refine kW ?_
 refine kC (fun hb => ?_) fun hb => ?_
 ·have h : a < b := by simpa using hb
  refine kW ?_
  refine AK.ret ⟨_, rfl, ?_⟩
  exact congrArg (AV.int _) (by rw [cmpI, if_pos h])
 have h : ¬ a < b := by simpa using hb
 refine kW ?_
 refine kC (fun hb => ?_) fun hb => ?_
 ·have h2 : b < a := by simpa using hb
  refine kW ?_
  refine AK.ret ⟨_, rfl, ?_⟩
  exact congrArg (AV.int _) (by rw [cmpI, if_neg h, if_pos h2])
 have h2 : ¬ b < a := by simpa using hb
 refine kW ?_
 refine AK.ret ⟨_, rfl, ?_⟩
 exact congrArg (AV.int _) (by rw [cmpI, if_neg h, if_neg h2])
theorem cmpInt64_a (a b : Int) : AC Tryz.prog 179 [.int .i64 a, .int .i64 b] (.int .i64 (cmpI a b)) := by
 refine kE Tryz.func179 a_cmp_Compare_int64_ok a_cmp_Compare_int64_cb fun E hE => ?_
 refine kW ?_
 refine kP [.v (.bool false)] ?_ ?_
 ·((repeat' apply And.intro) <;> first | exact kD | (intro hgd; refine ⟨?_, kG⟩; (repeat' apply And.intro) <;> first | exact kD | skip) | skip)
  ·exact isNaN64_a a
 refine kW ?_
 refine kP [.v (.bool false)] ?_ ?_
 ·((repeat' apply And.intro) <;> first | exact kD | (intro hgd; refine ⟨?_, kG⟩; (repeat' apply And.intro) <;> first | exact kD | skip) | skip)
  ·exact isNaN64_a b
 refine kW ?_
 refine kC (fun hb => ?_) fun hb => ?_
 ·cases hb
 refine kW ?_
 refine kC (fun hb => ?_) fun hb => ?_
 ·cases hb
 refine kW ?_
 refine kC (fun hb => ?_) fun hb => ?_
 ·have h : a < b := by simpa using hb
  refine kW ?_
  refine AK.ret ⟨_, rfl, ?_⟩
  exact congrArg (AV.int _) (by rw [cmpI, if_pos h])
 have h : ¬ a < b := by simpa using hb
 refine kW ?_
 refine kC (fun hb => ?_) fun hb => ?_
 ·have h2 : b < a := by simpa using hb
  refine kW ?_
  refine AK.ret ⟨_, rfl, ?_⟩
  exact congrArg (AV.int _) (by rw [cmpI, if_neg h, if_pos h2])
 have h2 : ¬ b < a := by simpa using hb
 refine kW ?_
 refine AK.ret ⟨_, rfl, ?_⟩
 exact congrArg (AV.int _) (by rw [cmpI, if_neg h, if_neg h2])
theorem cmpOr_a (c d : Int) : AC Tryz.prog 74 [.lst .any 1 [[.int .i64 c], [.int .i64 d]]] (.int .i64 (cmpOr c d)) := by
 refine kE Tryz.func74 a_cmp_Or_int_ok a_cmp_Or_int_cb fun E hE => ?_
 refine kW ?_
 refine AK.loopI (fun k : Nat => (frOf [(3, .int .i64 0), (6, .lst .any 1 [[.int .i64 c], [.int .i64 d]]), (7, .int .i64 2), (8, .int .i64 k)], ⟨boxOf [], fun _ => 0⟩)) (fun k => k ≤ 2 ∧ (0 < k → c = 0) ∧ (1 < k → d = 0)) (fun k => 2 - k) 0 ⟨by omega, by omega, by omega⟩ (Weak.intro ⟨kI, kI, kI, kI, trivial⟩ trivial rfl rfl) fun k ⟨hk, h1, h2⟩ => ?_
 refine kW ?_
 refine kC (fun hb => ?_) fun hb => ?_
 ·have hlt : k < 2 := by
   have : (k : Int) < 2 := by simpa using hb
   omega
  obtain ⟨n, hn, hc⟩ : ∃ n, [[AV.int IntKind.i64 c], [AV.int IntKind.i64 d]][k]? = some [.int .i64 n] ∧ (n ≠ 0 → cmpOr c d = n) ∧ (n = 0 → (0 < k + 1 → c = 0) ∧ (1 < k + 1 → d = 0)) := by
   obtain rfl | rfl : k = 0 ∨ k = 1 := by omega
   ·exact ⟨c, rfl, fun h => by rw [cmpOr, if_pos h], fun h => ⟨fun _ => h, fun h => by omega⟩⟩
   ·have := h1 (by omega)
    exact ⟨d, rfl, fun h => by rw [cmpOr, if_neg (by simp [this])], fun h => ⟨fun _ => this, fun _ => h⟩⟩
  refine kW ?_
  refine kQ [.c [.int .i64 n]] ?_
  refine kW ?_
  refine kC (fun hb => ?_) fun hb => ?_
  ·have h : n ≠ 0 := by simpa using hb
   refine kW ?_
   refine AK.ret ⟨_, rfl, ?_⟩
   exact congrArg (AV.int _) (hc.1 h).symm
  ·have h : n = 0 := by simpa using hb
   refine kW ?_
   exact AK.lp ⟨k + 1, ⟨by omega, (hc.2 h).1, (hc.2 h).2⟩, Weak.intro ⟨kI, kI, kI, kU, trivial⟩ trivial rfl rfl, by omega⟩
 ·have hlt : k = 2 := by
   have : (2 : Int) ≤ k := by simpa using hb
   omega
  subst hlt
  refine AK.exit rfl ?_
  refine kW ?_
  refine AK.ret ⟨_, rfl, ?_⟩
  exact congrArg (AV.int _) (by rw [cmpOr, if_neg (by simp [h1 (by omega)]), h2 (by omega)])
theorem cmpL_drop {l w : List V} {k : Nat} {x y : V} (hx : l[k]? = some x) (hy : w[k]? = some y) : cmpL (l.drop k) (w.drop k) = if x.cmpC y ≠ 0 then x.cmpC y else cmpL (l.drop (k + 1)) (w.drop (k + 1)) := by
 rw [drop_at hx, drop_at hy, cmpL]
theorem cmpM_drop {l w : List (ByteArray × V)} {k : Nat} {p q : ByteArray} {x y : V} (hx : l[k]? = some (p, x)) (hy : w[k]? = some (q, y)) :
  cmpM (l.drop k) (w.drop k) = if cmpOr (cmpS p q) (x.cmpC y) ≠ 0 then cmpOr (cmpS p q) (x.cmpC y) else cmpM (l.drop (k + 1)) (w.drop (k + 1)) := by
 rw [drop_at hx, drop_at hy, cmpM]
theorem cmpFuncV_a (l w : List V) (hl : l.length ≤ 2000000000000) (hw : w.length ≤ 2000000000000) (h : ∀ x ∈ l, ∀ y ∈ w, AC Tryz.prog 136 [(vA (x)), (vA (y))] (.int .i64 (x.cmpC y))) :
  AC Tryz.prog 180 [.lst .any 6 (rowsV l), .lst .any 6 (rowsV w), .fn 136 []] (.int .i64 (cmpL l w)) := by
 refine kE Tryz.func180 a_slices_CompareFunc_Value_ok a_slices_CompareFunc_Value_cb fun E hE => ?_
 refine kW ?_
 refine AK.loopI (fun k : Nat => (frOf [(0, .lst .any 6 (rowsV l)), (1, .lst .any 6 (rowsV w)), (2, .fn 136 []), (11, .lst .any 6 (rowsV l)), (12, .int .i64 (rowsV l).length), (13, .int .i64 k)], ⟨boxOf [], fun _ => 0⟩)) (fun k => k ≤ l.length ∧ k ≤ w.length ∧ cmpL (l.drop k) (w.drop k) = cmpL l w) (fun k => l.length - k) 0 ⟨by omega, by omega, rfl⟩ (Weak.intro ⟨kI, kI, kI, kI, kI, kI, trivial⟩ trivial rfl rfl) fun k ⟨hk, hkw, hr⟩ => ?_
 refine kW ?_
 refine kC (fun hb => ?_) fun hb => ?_
 ·have hlt : k < l.length := by simpa [rowsV_len] using hb
  obtain ⟨x, hg⟩ : ∃ x, l[k]? = some x := ⟨_, List.getElem?_eq_getElem hlt⟩
  refine kW ?_
  refine kP [.c (vC (x))] ?_ ?_
  ·((repeat' apply And.intro) <;> first | exact kD | (intro hgd; refine ⟨?_, kG⟩; (repeat' apply And.intro) <;> first | exact kD | skip) | skip)
   ·exact rowsV_at hg
  refine kW ?_
  refine kC (fun hb => ?_) fun hb => ?_
  ·have hge : w.length ≤ k := by simpa [rowsV_len] using hb
   rw [drop_at hg, List.drop_eq_nil_of_le hge, cmpL] at hr
   refine kW ?_
   refine AK.ret ⟨_, rfl, ?_⟩
   exact congrArg (AV.int _) hr
  have hlt2 : k < w.length := by simpa [rowsV_len] using hb
  obtain ⟨y, hy⟩ : ∃ x, w[k]? = some x := ⟨_, List.getElem?_eq_getElem hlt2⟩
  rw [cmpL_drop hg hy] at hr
  refine kW ?_
  refine kP [.c (vC (y))] ?_ ?_
  ·((repeat' apply And.intro) <;> first | exact kD | (intro hgd; refine ⟨?_, kG⟩; (repeat' apply And.intro) <;> first | exact kD | skip) | skip)
   ·exact rowsV_at hy
  refine kW ?_
  refine kP [.v (.int .i64 (x.cmpC y))] ?_ ?_
  ·((repeat' apply And.intro) <;> first | exact kD | (intro hgd; refine ⟨?_, kG⟩; (repeat' apply And.intro) <;> first | exact kD | skip) | skip)
   ·exact h x (List.mem_of_getElem? hg) y (List.mem_of_getElem? hy)
  refine kW ?_
  refine kC (fun hb => ?_) fun hb => ?_
  ·have he : x.cmpC y ≠ 0 := by simpa using hb
   rw [if_pos he] at hr
   refine kW ?_
   refine AK.ret ⟨_, rfl, ?_⟩
   exact congrArg (AV.int _) hr
  ·have he : ¬ x.cmpC y ≠ 0 := by simpa using hb
   rw [if_neg he] at hr
   refine kW ?_
   exact AK.lp ⟨k + 1, ⟨by omega, by omega, hr⟩, Weak.intro ⟨kI, kI, kI, kI, kI, kU, trivial⟩ trivial rfl rfl, by omega⟩
 ·have hlt : k = l.length := by have : l.length ≤ k := by simpa [rowsV_len] using hb
                                omega
  subst hlt
  rw [List.drop_length] at hr
  refine AK.exit rfl ?_
  refine kW ?_
  refine kC (fun hb => ?_) fun hb => ?_
  ·have hlt2 : l.length < w.length := by simpa [rowsV_len] using hb
   obtain ⟨y, hy⟩ : ∃ x, w[l.length]? = some x := ⟨_, List.getElem?_eq_getElem hlt2⟩
   rw [drop_at hy, cmpL] at hr
   refine kW ?_
   refine AK.ret ⟨_, rfl, ?_⟩
   exact congrArg (AV.int _) hr
  ·have hlt2 : w.length ≤ l.length := by simpa [rowsV_len] using hb
   rw [List.drop_eq_nil_of_le hlt2, cmpL] at hr
   refine kW ?_
   refine AK.ret ⟨_, rfl, ?_⟩
   exact congrArg (AV.int _) hr
theorem cmpFuncM_a (l w : List (ByteArray × V)) (hl : l.length ≤ 2000000000000) (hw : w.length ≤ 2000000000000) (h : ∀ q ∈ l, ∀ p ∈ w, AC Tryz.prog 182 [.agg (.str q.1 :: (vC (q.2))), .agg (.str p.1 :: (vC (p.2)))] (.int .i64 (cmpOr (cmpS q.1 p.1) (q.2.cmpC p.2)))) :
  AC Tryz.prog 181 [.lst .any 7 (rowsM l), .lst .any 7 (rowsM w), .fn 182 []] (.int .i64 (cmpM l w)) := by
 refine kE Tryz.func181 a_slices_CompareFunc_Pair_ok a_slices_CompareFunc_Pair_cb fun E hE => ?_
 refine kW ?_
 refine AK.loopI (fun k : Nat => (frOf [(0, .lst .any 7 (rowsM l)), (1, .lst .any 7 (rowsM w)), (2, .fn 182 []), (11, .lst .any 7 (rowsM l)), (12, .int .i64 (rowsM l).length), (13, .int .i64 k)], ⟨boxOf [], fun _ => 0⟩)) (fun k => k ≤ l.length ∧ k ≤ w.length ∧ cmpM (l.drop k) (w.drop k) = cmpM l w) (fun k => l.length - k) 0 ⟨by omega, by omega, rfl⟩ (Weak.intro ⟨kI, kI, kI, kI, kI, kI, trivial⟩ trivial rfl rfl) fun k ⟨hk, hkw, hr⟩ => ?_
 refine kW ?_
 refine kC (fun hb => ?_) fun hb => ?_
 ·have hlt : k < l.length := by simpa [rowsM_len] using hb
  obtain ⟨⟨p, x⟩, hg⟩ : ∃ x, l[k]? = some x := ⟨_, List.getElem?_eq_getElem hlt⟩
  refine kW ?_
  refine kP [.c (.str p :: (vC (x)))] ?_ ?_
  ·((repeat' apply And.intro) <;> first | exact kD | (intro hgd; refine ⟨?_, kG⟩; (repeat' apply And.intro) <;> first | exact kD | skip) | skip)
   ·exact rowsM_at hg
  refine kW ?_
  refine kC (fun hb => ?_) fun hb => ?_
  ·have hge : w.length ≤ k := by simpa [rowsM_len] using hb
   rw [drop_at hg, List.drop_eq_nil_of_le hge, cmpM] at hr
   refine kW ?_
   refine AK.ret ⟨_, rfl, ?_⟩
   exact congrArg (AV.int _) hr
  have hlt2 : k < w.length := by simpa [rowsM_len] using hb
  obtain ⟨⟨q, y⟩, hy⟩ : ∃ x, w[k]? = some x := ⟨_, List.getElem?_eq_getElem hlt2⟩
  rw [cmpM_drop hg hy] at hr
  refine kW ?_
  refine kP [.c (.str q :: (vC (y)))] ?_ ?_
  ·((repeat' apply And.intro) <;> first | exact kD | (intro hgd; refine ⟨?_, kG⟩; (repeat' apply And.intro) <;> first | exact kD | skip) | skip)
   ·exact rowsM_at hy
  refine kW ?_
  refine kP [.v (.int .i64 (cmpOr (cmpS p q) (x.cmpC y)))] ?_ ?_
  ·((repeat' apply And.intro) <;> first | exact kD | (intro hgd; refine ⟨?_, kG⟩; (repeat' apply And.intro) <;> first | exact kD | skip) | skip)
   ·exact h (p, x) (List.mem_of_getElem? hg) (q, y) (List.mem_of_getElem? hy)
  refine kW ?_
  refine kC (fun hb => ?_) fun hb => ?_
  ·have he : cmpOr (cmpS p q) (x.cmpC y) ≠ 0 := by simpa using hb
   rw [if_pos he] at hr
   refine kW ?_
   refine AK.ret ⟨_, rfl, ?_⟩
   exact congrArg (AV.int _) hr
  ·have he : ¬ cmpOr (cmpS p q) (x.cmpC y) ≠ 0 := by simpa using hb
   rw [if_neg he] at hr
   refine kW ?_
   exact AK.lp ⟨k + 1, ⟨by omega, by omega, hr⟩, Weak.intro ⟨kI, kI, kI, kI, kI, kU, trivial⟩ trivial rfl rfl, by omega⟩
 ·have hlt : k = l.length := by have : l.length ≤ k := by simpa [rowsM_len] using hb
                                omega
  subst hlt
  rw [List.drop_length] at hr
  refine AK.exit rfl ?_
  refine kW ?_
  refine kC (fun hb => ?_) fun hb => ?_
  ·have hlt2 : l.length < w.length := by simpa [rowsM_len] using hb
   obtain ⟨⟨q, y⟩, hy⟩ : ∃ x, w[l.length]? = some x := ⟨_, List.getElem?_eq_getElem hlt2⟩
   rw [drop_at hy, cmpM] at hr
   refine kW ?_
   refine AK.ret ⟨_, rfl, ?_⟩
   exact congrArg (AV.int _) hr
  ·have hlt2 : w.length ≤ l.length := by simpa [rowsM_len] using hb
   rw [List.drop_eq_nil_of_le hlt2, cmpM] at hr
   refine kW ?_
   refine AK.ret ⟨_, rfl, ?_⟩
   exact congrArg (AV.int _) hr
theorem compare1_a (p q : ByteArray) (x y : V) (h : AC Tryz.prog 136 [(vA (x)), (vA (y))] (.int .i64 (x.cmpC y))) :
  AC Tryz.prog 182 [.agg (.str p :: (vC (x))), .agg (.str q :: (vC (y)))] (.int .i64 (cmpOr (cmpS p q) (x.cmpC y))) := by
 refine kE Tryz.func182 a_tree_Compare_1_ok a_tree_Compare_1_cb fun E hE => ?_
 refine kW ?_
 refine kP [.v (.int .i64 (cmpS p q)), .v (.int .i64 (x.cmpC y)), .v (.int .i64 (cmpOr (cmpS p q) (x.cmpC y)))] ?_ ?_
 ·((repeat' apply And.intro) <;> first | exact kD | (intro hgd; refine ⟨?_, kG⟩; (repeat' apply And.intro) <;> first | exact kD | skip) | skip)
  ·exact strCompare_a p q
  ·exact cmpOr_a _ _
 refine kW ?_
 refine AK.ret ⟨_, rfl, ?_⟩
 rfl
theorem cmpC_first {v w : V} {c : Int} (h : cmpI v.kind w.kind = c) (hc : c ≠ 0) : v.cmpC w = c := by rw [V.cmpC_eq, h, if_pos hc]
theorem cmpC_rest {v w : V} (h : cmpI v.kind w.kind = 0) : v.cmpC w = if v.kind = 1 then cmpBo v.b w.b else if v.kind = 2 then cmpI v.n w.n else if v.kind = 3 then cmpS v.s w.s else if v.kind = 4 then cmpL v.l w.l else if v.kind = 5 then cmpM v.m w.m else 0 := by
 rw [V.cmpC_eq, h, if_neg (by simp)]
theorem compare_a (n : Nat) : ∀ a b : V, a.size ≤ n → a.size ≤ 2000000000000 → b.size ≤ 2000000000000 → AC Tryz.prog 136 [(vA (a)), (vA (b))] (.int .i64 (a.cmpC b)) := by
 induction n with
 | zero => intro v _ h; have := v.size_pos; omega
 | succ n ih =>
  intro a b hn hsz hszb
  have hve := a.size_eq
  have hll := len_le_sizeL a.l
  have hlm := len_le_sizeM a.m
  have hveb := b.size_eq
  have hllb := len_le_sizeL b.l
  have hlmb := len_le_sizeM b.m
  refine kE Tryz.func136 a_tree_Compare_ok a_tree_Compare_cb fun E hE => ?_
  refine kW ?_
  refine kP [.v (.int .i64 (cmpI a.kind b.kind))] ?_ ?_
  ·((repeat' apply And.intro) <;> first | exact kD | (intro hgd; refine ⟨?_, kG⟩; (repeat' apply And.intro) <;> first | exact kD | skip) | skip)
   ·exact cmpInt_a _ _
  refine kW ?_
  refine kC (fun hb => ?_) fun hb => ?_
  ·have h : cmpI a.kind b.kind ≠ 0 := by simpa using hb
   refine kW ?_
   refine AK.ret ⟨_, rfl, ?_⟩
   exact congrArg (AV.int _) (cmpC_first rfl h).symm
  have h : cmpI a.kind b.kind = 0 := by simpa using hb
  rw [cmpC_rest h]
  refine kW ?_
  refine kC (fun hb => ?_) fun hb => ?_
  ·have hk : a.kind = 1 := by simpa using hb
   rw [if_pos hk]
   refine kW ?_
   refine kC (fun hb => ?_) fun hb => ?_
   ·refine kW ?_
    refine AK.ret ⟨_, rfl, ?_⟩
    exact congrArg (AV.int _) (by rw [cmpBo, if_pos hb])
   refine kW ?_
   have h1 : ¬ (a.b == b.b) = true := by rw [hb]; decide
   refine kC (fun hb => ?_) fun hb => ?_
   ·refine kW ?_
    refine AK.ret ⟨_, rfl, ?_⟩
    exact congrArg (AV.int _) (by rw [cmpBo, if_neg h1, if_pos hb])
   ·refine kW ?_
    refine AK.ret ⟨_, rfl, ?_⟩
    exact congrArg (AV.int _) (by rw [cmpBo, if_neg h1, if_neg (by simp [hb])])
  have hk : ¬ a.kind = 1 := by simpa using hb
  rw [if_neg hk]
  refine kW ?_
  refine kC (fun hb => ?_) fun hb => ?_
  ·have hk : a.kind = 2 := by simpa using hb
   rw [if_pos hk]
   refine kW ?_
   refine kP [.v (.int .i64 (cmpI a.n b.n))] ?_ ?_
   ·((repeat' apply And.intro) <;> first | exact kD | (intro hgd; refine ⟨?_, kG⟩; (repeat' apply And.intro) <;> first | exact kD | skip) | skip)
    ·exact cmpInt64_a _ _
   refine kW ?_
   refine AK.ret ⟨_, rfl, ?_⟩
   rfl
  have hk : ¬ a.kind = 2 := by simpa using hb
  rw [if_neg hk]
  refine kW ?_
  refine kC (fun hb => ?_) fun hb => ?_
  ·have hk : a.kind = 3 := by simpa using hb
   rw [if_pos hk]
   refine kW ?_
   refine kP [.v (.int .i64 (cmpS a.s b.s))] ?_ ?_
   ·((repeat' apply And.intro) <;> first | exact kD | (intro hgd; refine ⟨?_, kG⟩; (repeat' apply And.intro) <;> first | exact kD | skip) | skip)
    ·exact strCompare_a _ _
   refine kW ?_
   refine AK.ret ⟨_, rfl, ?_⟩
   rfl
  have hk : ¬ a.kind = 3 := by simpa using hb
  rw [if_neg hk]
  refine kW ?_
  refine kC (fun hb => ?_) fun hb => ?_
  ·have hk : a.kind = 4 := by simpa using hb
   rw [if_pos hk]
   refine kW ?_
   refine kP [.v (.int .i64 (cmpL a.l b.l))] ?_ ?_
   ·((repeat' apply And.intro) <;> first | exact kD | (intro hgd; refine ⟨?_, kG⟩; (repeat' apply And.intro) <;> first | exact kD | skip) | skip)
    ·exact cmpFuncV_a _ _ (by omega) (by omega) fun x hx y hy => ih x y (by have := mem_size hx; omega) (by have := mem_size hx; omega) (by have := mem_size hy; omega)
   refine kW ?_
   refine AK.ret ⟨_, rfl, ?_⟩
   rfl
  have hk : ¬ a.kind = 4 := by simpa using hb
  rw [if_neg hk]
  refine kW ?_
  refine kC (fun hb => ?_) fun hb => ?_
  ·have hk : a.kind = 5 := by simpa using hb
   rw [if_pos hk]
   refine kW ?_
   refine kP [.v (.int .i64 (cmpM a.m b.m))] ?_ ?_
   ·((repeat' apply And.intro) <;> first | exact kD | (intro hgd; refine ⟨?_, kG⟩; (repeat' apply And.intro) <;> first | exact kD | skip) | skip)
    ·exact cmpFuncM_a _ _ (by omega) (by omega) fun q hq p hp => compare1_a q.1 p.1 q.2 p.2 (ih q.2 p.2 (by have := mem_sizeM hq; omega) (by have := mem_sizeM hq; omega) (by have := mem_sizeM hp; omega))
   refine kW ?_
   refine AK.ret ⟨_, rfl, ?_⟩
   rfl
  have hk : ¬ a.kind = 5 := by simpa using hb
  rw [if_neg hk]
  refine kW ?_
  refine AK.ret ⟨_, rfl, ?_⟩
  rfl
theorem treeSame_a (a b : V) (ha : a.good) (hb : b.good) (hsz : a.size ≤ 2000000000000) (hszb : b.size ≤ 2000000000000) : AC Tryz.prog 87 [(vA (a)), (vA (b))] (.bool (a.sameB b)) := by
 rw [← V.cmp_same ha hb]
 refine kE Tryz.func87 a_tree_Same_ok a_tree_Same_cb fun E hE => ?_
 refine kW ?_
 refine kP [.v (.int .i64 (a.cmpC b))] ?_ ?_
 ·((repeat' apply And.intro) <;> first | exact kD | (intro hgd; refine ⟨?_, kG⟩; (repeat' apply And.intro) <;> first | exact kD | skip) | skip)
  ·exact compare_a _ a b (Nat.le_refl _) hsz hszb
 refine kW ?_
 refine AK.ret ⟨_, rfl, ?_⟩
 rfl
end Go.Proofs.YtgidajjjpeboeaaGreatDoor
