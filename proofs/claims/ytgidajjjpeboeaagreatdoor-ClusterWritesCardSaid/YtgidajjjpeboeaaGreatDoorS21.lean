/-
  The texts that the claim wants, one behind the other: part 21.
-/
import Derived.Test.YtgidajjjpeboeaaGreatDoorS20
import Derived.Lib.Bytealg
import Derived.Test.YtgidajjjpeboeaaGreatDoorChecked
import Derived.KernelRfl
set_option linter.unusedSimpArgs false
set_option linter.unusedVariables false
namespace Go.Proofs.YtgidajjjpeboeaaGreatDoor
open Go.RowKit
def cmpS (a b : ByteArray) : Int := Lib.compareBytes a.data.toList b.data.toList
theorem cmpB_lt : ∀ {a b : List UInt8}, Lib.compareBytes a b < 0 ↔ Op.bytesLess a b = true
 | [], [] => by simp [Lib.compareBytes, Op.bytesLess]
 | [], _ :: _ => by simp [Lib.compareBytes, Op.bytesLess]
 | _ :: _, [] => by simp [Lib.compareBytes, Op.bytesLess]
 | a :: l, b :: m => by
  rw [Lib.compareBytes]
  simp only [Op.bytesLess, Bool.or_eq_true, decide_eq_true_eq, Bool.and_eq_true, beq_iff_eq]
  split
  ·rename_i h; simp [h]
  ·rename_i h
   split
   ·rename_i h2
    have : a ≠ b := by rintro rfl; exact absurd h2 (UInt8.lt_irrefl _)
    simp [h, this]
   ·rename_i h2
    have : a = b := UInt8.le_antisymm (UInt8.not_lt.1 h2) (UInt8.not_lt.1 h)
    subst this
    simp [cmpB_lt]
theorem cmpB_eq : ∀ {a b : List UInt8}, Lib.compareBytes a b = 0 ↔ a = b
 | [], [] => by simp [Lib.compareBytes]
 | [], _ :: _ => by simp [Lib.compareBytes]
 | _ :: _, [] => by simp [Lib.compareBytes]
 | a :: l, b :: m => by
  rw [Lib.compareBytes]
  split
  ·rename_i h
   have : a ≠ b := by rintro rfl; exact absurd h (UInt8.lt_irrefl _)
   simp [this]
  ·rename_i h
   split
   ·rename_i h2
    have : a ≠ b := by rintro rfl; exact absurd h2 (UInt8.lt_irrefl _)
    simp [this]
   ·rename_i h2
    have : a = b := UInt8.le_antisymm (UInt8.not_lt.1 h2) (UInt8.not_lt.1 h)
    subst this
    simp [cmpB_eq]
theorem cmpS_lt {a b : ByteArray} : cmpS a b < 0 ↔ klt a b := by
 rw [cmpS, cmpB_lt, klt, ByteArray.toList_eq, ByteArray.toList_eq]
theorem cmpS_eq {a b : ByteArray} : cmpS a b = 0 ↔ a = b := by
 rw [cmpS, cmpB_eq]
 constructor
 ·intro h
  rcases a with ⟨⟨a⟩⟩
  rcases b with ⟨⟨b⟩⟩
  simp at h
  rw [h]
 ·rintro rfl; rfl
set_option maxHeartbeats 1000000 in
set_option maxRecDepth 100000 in
theorem cmpString_any (a b : ByteArray) (w : World) : Calls Tryz.prog 162 #[.string a, .string b] w fun e w' => e = .returned (.int .i64 (cmpS a b)) ∧ w' = w := by
 go_enter Tryz.func162, Tryz.ntmps162
 go_wp2
 rw [run_callFunc_extern Tryz.func192 (by kernel_rfl) (by kernel_rfl) (by kernel_rfl) (e := Extern.BytealgCompare.compare) (by kernel_rfl), Lib.run_compareString]
 simp only [Result.andThen]
 rw [Oper.upon_value]
 go_wp2
 go_ret
 exact ⟨rfl, rfl⟩
theorem cmpString_a (a b : ByteArray) : AC Tryz.prog 162 [.str a, .str b] (.int .i64 (cmpS a b)) := by
 refine ⟨by kernel_rfl, fun σ w vs hh hr hg => ?_⟩
 obtain ⟨hl, hr⟩ := hr
 obtain ⟨u, v, rfl⟩ : ∃ u v, vs = [u, v] := by
  match vs, hl with
  | [u, v], _ => exact ⟨u, v, rfl⟩
 have h1 : Rel1 σ u (.str a) := hr 0 _ _ rfl rfl
 have h2 : Rel1 σ v (.str b) := hr 1 _ _ rfl rfl
 cases h1
 cases h2
 refine (cmpString_any a b w).mono ?_
 rintro e w' ⟨rfl, rfl⟩
 exact ⟨σ, _, rfl, Ext.refl _ _, hh, Below.refl _ _, Rel1.int _ _⟩
theorem strCompare_a (a b : ByteArray) : AC Tryz.prog 103 [.str a, .str b] (.int .i64 (cmpS a b)) := by
 refine kE Tryz.func103 a_strings_Compare_ok a_strings_Compare_cb fun E hE => ?_
 refine kW ?_
 refine kP [.v (.int .i64 (cmpS a b))] ?_ ?_
 ·((repeat' apply And.intro) <;> first | exact kD | (intro hgd; refine ⟨?_, kG⟩; (repeat' apply And.intro) <;> first | exact kD | skip) | skip)
  ·exact cmpString_a a b
 refine kW ?_
 refine AK.ret ⟨_, rfl, ?_⟩
 rfl
theorem byKey_a (y : ByteArray) (x : V) (key : ByteArray) : AC Tryz.prog 63 [.agg (.str y :: (vC (x))), .str key] (.int .i64 (cmpS y key)) := by
 refine kE Tryz.func63 a_tree_byKey_ok a_tree_byKey_cb fun E hE => ?_
 refine kW ?_
 refine kP [.v (.int .i64 (cmpS y key))] ?_ ?_
 ·((repeat' apply And.intro) <;> first | exact kD | (intro hgd; refine ⟨?_, kG⟩; (repeat' apply And.intro) <;> first | exact kD | skip) | skip)
  ·exact strCompare_a y key
 refine kW ?_
 refine AK.ret ⟨_, rfl, ?_⟩
 rfl
end Go.Proofs.YtgidajjjpeboeaaGreatDoor
/-
 The search in a sorted map, walked.
-/
namespace Go.Proofs.YtgidajjjpeboeaaGreatDoor
open Go.RowKit
def bless (key : ByteArray) (p : ByteArray × V) : Bool := decide (cmpS p.1 key < 0)
def bpos (key : ByteArray) (m : List (ByteArray × V)) : Nat := (m.takeWhile (bless key)).length
theorem bpos_le (key : ByteArray) (m : List (ByteArray × V)) : bpos key m ≤ m.length := (List.takeWhile_prefix _).length_le
theorem klt_trans {a b c : ByteArray} (h : klt a b) (k : klt b c) : klt a c := bl_trans h k
theorem bpos_lt {key : ByteArray} : ∀ {m : List (ByteArray × V)} {i : Nat} {p : ByteArray × V}, m.Pairwise (fun p q => klt p.1 q.1) → m[i]? = some p → (cmpS p.1 key < 0 ↔ i < bpos key m)
 | [], i, p, _, h => by simp at h
 | q :: m, i, p, hs, h => by
  rw [bpos, List.takeWhile_cons]
  by_cases hq : bless key q = true
  ·rw [if_pos hq, List.length_cons]
   cases i with
   | zero => simp at h; subst h; simpa [bless] using hq
   | succ i =>
    have := bpos_lt (key := key) (List.pairwise_cons.1 hs).2 (show m[i]? = some p by simpa using h)
    rw [bpos] at this
    rw [this]; omega
  ·rw [if_neg hq]
   simp only [List.length_nil, Nat.not_lt_zero, iff_false]
   intro hp
   cases i with
   | zero => simp at h; subst h; exact hq (by simpa [bless] using hp)
   | succ i =>
    have hqp := (List.pairwise_cons.1 hs).1 p (List.mem_of_getElem? (show m[i]? = some p by simpa using h))
    exact hq (by rw [bless, decide_eq_true_eq]; exact cmpS_lt.2 (klt_trans hqp (cmpS_lt.1 hp)))
def bfound (key : ByteArray) (m : List (ByteArray × V)) : Bool := match m[bpos key m]? with
 | some p => decide (cmpS p.1 key = 0)
 | none => false
theorem midpt_eq {lo hi : Nat} (h : lo + hi ≤ 1000000000000000) : IntKind.i64.wrap ((IntKind.u64.wrap (IntKind.i64.wrap ((lo : Int) + hi))).fdiv (2 ^ (min (1 : Int).toNat IntKind.u64.bits))) = (((lo + hi) / 2 : Nat) : Int) := by
 rw [wrap_in (n := (lo : Int) + hi) (by omega) (by omega)]
 have h1 : IntKind.u64.wrap ((lo : Int) + hi) = (lo : Int) + hi := by
  simp only [IntKind.wrap, IntKind.signed, IntKind.bits]
  simp
  omega
 have h2 : ((lo : Int) + hi).fdiv (2 ^ (min (1 : Int).toNat IntKind.u64.bits)) = (((lo + hi) / 2 : Nat) : Int) := by
  have : (2 : Int) ^ (min (1 : Int).toNat IntKind.u64.bits) = 2 := by decide
  rw [this, Int.fdiv_eq_ediv_of_nonneg _ (by decide)]
  omega
 rw [h1, h2, wrap_in (by omega) (by omega)]
theorem bfound_eq {key y : ByteArray} {x : V} {m : List (ByteArray × V)} (hg : bpos key m < m.length → m[bpos key m]? = some (y, x)) : bfound key m = (decide ((bpos key m : Int) < (rowsM m).length) && decide (cmpS y key = 0)) := by
 rw [rowsM_len, bfound]
 by_cases h : bpos key m < m.length
 ·rw [hg h, decide_eq_true (by omega : (bpos key m : Int) < m.length)]
  simp
 ·rw [List.getElem?_eq_none (by omega), decide_eq_false (by omega : ¬ (bpos key m : Int) < m.length)]
  rfl
set_option maxRecDepth 4000 in
theorem bsearch_a (m : List (ByteArray × V)) (key : ByteArray) (hs : m.Pairwise (fun p q => klt p.1 q.1)) (hl : m.length ≤ 2000000000000) :
  AC Tryz.prog 62 [.lst .any 7 (rowsM m), .str key, .fn 63 []] (.tup [.int .i64 (bpos key m : Nat), .bool (bfound key m)]) := by
 have hbl := bpos_le key m
 refine kE Tryz.func62 a_slices_BinarySearchFunc_string_ok a_slices_BinarySearchFunc_string_cb fun E hE => ?_
 refine kW ?_
 refine AK.loopI (fun i : Nat × Nat => (frOf [(0, .lst .any 7 (rowsM m)), (1, .str key), (2, .fn 63 []), (8, .int .i64 (rowsM m).length), (9, .int .i64 i.1), (10, .int .i64 i.2)], ⟨boxOf [], fun _ => 0⟩))
  (fun i => i.1 ≤ bpos key m ∧ bpos key m ≤ i.2 ∧ i.2 ≤ m.length) (fun i => i.2 - i.1) (0, m.length) ⟨by simp, hbl, by simp⟩ (Weak.intro ⟨kI, kI, kI, kI, kI, ⟨_, rfl, .of_eq (by rw [rowsM_len])⟩, trivial⟩ trivial rfl rfl) fun ⟨lo, hi⟩ ⟨h1, h2, h3⟩ => ?_
 dsimp only at h1 h2 h3
 refine kW ?_
 refine kC (fun hb => ?_) fun hb => ?_
 ·have hlt : lo < hi := by simpa using hb
  refine kW ?_
  refine kQ [] ?_
  refine AK.weak (fr' := frOf [(0, .lst .any 7 (rowsM m)), (1, .str key), (2, .fn 63 []), (8, .int .i64 (rowsM m).length), (9, .int .i64 lo), (10, .int .i64 hi), (11, .int .i64 ((lo + hi) / 2 : Nat))]) (st' := ⟨boxOf [], fun _ => 0⟩) (Weak.intro ⟨kI, kI, kI, kI, kI, kI, ⟨_, rfl, .of_eq (congrArg _ (midpt_eq (by omega)))⟩, trivial⟩ trivial rfl rfl) ?_
  obtain ⟨mid, hmid⟩ : ∃ mid, mid = (lo + hi) / 2 := ⟨_, rfl⟩
  rw [← hmid]
  have hm1 : lo ≤ mid := by omega
  have hm2 : mid < hi := by omega
  obtain ⟨⟨y, x⟩, hg⟩ : ∃ x, m[mid]? = some x := ⟨_, List.getElem?_eq_getElem (by omega)⟩
  have hlb := bpos_lt (key := key) hs hg
  refine kW ?_
  refine kP [.c (.str y :: (vC (x))), .v (.int .i64 (cmpS y key))] ?_ ?_
  ·((repeat' apply And.intro) <;> first | exact kD | (intro hgd; refine ⟨?_, kG⟩; (repeat' apply And.intro) <;> first | exact kD | skip) | skip)
   ·exact rowsM_at hg
   ·exact byKey_a y x key
  refine kC (fun hb => ?_) fun hb => ?_
  ·have hk : mid < bpos key m := hlb.1 (by simpa using hb)
   refine kW ?_
   exact AK.lp ⟨(mid + 1, hi), ⟨by dsimp only; omega, h2, h3⟩, Weak.intro ⟨kI, kI, kI, kI, kU, kI, trivial⟩ trivial rfl rfl, by dsimp only; omega⟩
  ·have hk : ¬ mid < bpos key m := fun h => absurd (hlb.2 h) (by simpa using hb)
   refine kW ?_
   exact AK.lp ⟨(lo, mid), ⟨h1, by dsimp only; omega, by dsimp only; omega⟩, Weak.intro ⟨kI, kI, kI, kI, kI, kU, trivial⟩ trivial rfl rfl, by dsimp only; omega⟩
 ·have hlt : lo = bpos key m := by have : hi ≤ lo := by simpa using hb
                                   omega
  subst hlt
  refine AK.exit rfl ?_
  refine kW ?_
  obtain ⟨y, x, hg⟩ : ∃ y x, bpos key m < m.length → m[bpos key m]? = some (y, x) := by
   by_cases h : bpos key m < m.length
   ·exact ⟨_, _, fun _ => List.getElem?_eq_getElem h⟩
   ·exact ⟨key, V.null, fun h' => absurd h' h⟩
  refine kP [.c (.str y :: (vC (x))), .v (.int .i64 (cmpS y key))] ?_ ?_
  ·((repeat' apply And.intro) <;> first | exact kD | (intro hgd; refine ⟨?_, kG⟩; (repeat' apply And.intro) <;> first | exact kD | skip) | skip)
   ·exact rowsM_at (hg (by simpa [gd, rowsM_len] using hgd))
   ·exact byKey_a y x key
  refine kW ?_
  refine AK.ret ⟨_, rfl, ?_⟩
  rw [bfound_eq hg]
  rfl
end Go.Proofs.YtgidajjjpeboeaaGreatDoor
/-
 What stands in a map, what stands at a path, in the program; walked.
-/
namespace Go.Proofs.YtgidajjjpeboeaaGreatDoor
open Go.RowKit
def CloneOk : Prop := ∀ v : V, v.size ≤ 1000000000000 → AC Tryz.prog 38 [(vA (v))] ((vA (v)))
end Go.Proofs.YtgidajjjpeboeaaGreatDoor
namespace Go.Proofs.YtgidajjjpeboeaaGreatDoor
set_option maxRecDepth 100000
def b_tree_Clone : ACode :=
 .seq (gQ [gP 1 0, ⟨gO, .alloc 2 gZ⟩]) (.seq (gQ [gF 5 4 1, gL 6 5, gC 7 70 [.s 6], gF 8 5 1, gL 9 8, gC 10 71 [.s 9], gF 11 4 1, gT 1 11 7, gF 12 5 1, gT 1 12 10]) (.seq (.seq (gQ [gF 13 4 1, gL 14 13, gH 15 false 14, gJ 16 0]) (.block 0 (.loop (.seq (gQ [gV 17 .lss 16 15]) (.seq (.cond (.s 17) .skip (.exit 0)) (.seq (.block 1 (.seq (gQ [gM 18 16, gM 3 18]) (.reg [gF 19 4 1, gL 20 19, gM 21 3, gF 22 4 1, gL 23 22, gM 24 3, gE 25 6 23 24, gA 26 6 25, gC 27 38 [.s 26], gE 28 6 20 21, gT 6 28 27]))) (.reg [gU 29 .add 16 1, gM 16 29]))))))) (.seq (.seq (gQ [gF 30 5 1, gL 31 30, gH 32 false 31, gJ 33 0]) (.block 2 (.loop (.seq (gQ [gV 34 .lss 33 32]) (.seq (.cond (.s 34) .skip (.exit 2)) (.seq (.block 3 (.seq (gQ [gM 35 33, gM 4 35]) (.reg [gF 36 5 1, gL 37 36, gM 38 4, gF 39 5 1, gL 40 39, gM 41 4, gE 42 7 40 41, gF 43 1 42, gA 44 6 43, gC 45 38 [.s 44], gE 46 7 37 38, gF 47 1 46, gT 6 47 45]))) (.reg [gU 48 .add 33 1, gM 33 48]))))))) (.seq (gQ [gA 49 6 1, gT 6 2 49]) .ret))))
def a_tree_Clone : AFn := ⟨1, 50, b_tree_Clone, [.cell 2 6 true]⟩
theorem a_tree_Clone_ok : fnAF Tryz.prog [64, 62] Tryz.f38 = some a_tree_Clone := by kernel_rfl
theorem a_tree_Clone_cb : callable Tryz.prog 38 = true := by kernel_rfl
def b_tree_Map : ACode :=
 .seq (gQ [⟨gO, .alloc 2 gZ⟩]) (.seq (gQ [⟨gO, .build 8 gZ [(0, 1, gI 5)]⟩, ⟨gO, .alloc 3 gZ⟩, gT 6 3 8]) (.seq (.seq (gQ [gM 9 0, gH 10 false 9, gJ 11 0]) (.block 0 (.loop (.seq (gQ [gV 12 .lss 11 10]) (.seq (.cond (.s 12) .skip (.exit 0)) (.seq (.block 1 (.seq (gQ [gE 13 7 9 11, gA 14 7 13, ⟨gO, .alloc 5 [.str ⟨#[]⟩, .int .i64 0, .bool false, .int .i64 0, .str ⟨#[]⟩, .lst .nil 6 [], .lst .nil 7 []]⟩, gT 7 5 14]) (.seq (gQ [gF 16 5 3, gL 17 16, gF 18 0 5, gL 19 18, ⟨gO, .callr (some 20) (.k (.fn 62 [])) [.s 17, .s 19, .k (.fn 63 [])]⟩, gM 15 20, gX 21 0 15, gX 22 1 15, gM 6 21, gM 7 22]) (.seq (.seq (gQ [gM 23 7]) (.cond (.s 23) (.seq (gQ [gF 24 5 3, gL 25 24, gM 26 6, gF 27 1 5, gA 28 6 27, gC 29 38 [.s 28], gE 30 7 25 26, gF 31 1 30, gT 6 31 29]) (.exit 1)) .skip)) (.reg [gF 32 5 3, gL 33 32, gM 34 6, gF 35 0 5, gL 36 35, gF 37 1 5, gA 38 6 37, gC 39 38 [.s 38], ⟨gO, .build 40 [.str ⟨#[]⟩, .int .i64 0, .bool false, .int .i64 0, .str ⟨#[]⟩, .lst .nil 6 [], .lst .nil 7 []] [(0, 1, .s 36), (1, 6, .s 39)]⟩, ⟨gO, .bsl 41 1 7 [.str ⟨#[]⟩, .int .i64 0, .bool false, .int .i64 0, .str ⟨#[]⟩, .lst .nil 6 [], .lst .nil 7 []] [(0, 7, .s 40)]⟩, ⟨gO, .callr (some 42) (.k (.fn 64 [])) [.s 33, .s 34, .s 41]⟩, gF 43 5 3, gT 1 43 42]))))) (.reg [gU 44 .add 11 1, gM 11 44]))))))) (.seq (gQ [gA 45 6 3, gT 6 2 45]) .ret)))
def a_tree_Map : AFn := ⟨1, 46, b_tree_Map, [.cell 2 6 true]⟩
theorem a_tree_Map_ok : fnAF Tryz.prog [64, 62] Tryz.f27 = some a_tree_Map := by kernel_rfl
theorem a_tree_Map_cb : callable Tryz.prog 27 = true := by kernel_rfl
theorem a_slices_Clone_Value_cb : callable Tryz.prog 70 = true := by kernel_rfl
theorem a_slices_Clone_Pair_cb : callable Tryz.prog 71 = true := by kernel_rfl
end Go.Proofs.YtgidajjjpeboeaaGreatDoor
