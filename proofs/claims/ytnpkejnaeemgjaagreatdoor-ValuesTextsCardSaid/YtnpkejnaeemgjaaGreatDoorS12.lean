/-
  The texts that the claim wants, one behind the other: part 12.
-/
import Derived.Test.YtnpkejnaeemgjaaGreatDoorS11
import Derived.Lib.Bytealg
set_option linter.unusedSimpArgs false
set_option linter.unusedVariables false
namespace Go.Proofs.YtnpkejnaeemgjaaGreatDoor
open Go.RowKit
def cmpS (a b : ByteArray) : Int := Lib.compareBytes a.data.toList b.data.toList
theorem cmpB_lt : ∀ {a b : List UInt8}, Lib.compareBytes a b < 0 ↔ Op.bytesLess a b = true
 | [], [] => by simp [Lib.compareBytes, Op.bytesLess]
 | [], _ :: _ => by simp [Lib.compareBytes, Op.bytesLess]
 | _ :: _, [] => by simp [Lib.compareBytes, Op.bytesLess]
 | a :: l, b :: m => by
  rw [Lib.compareBytes]
  simp only [Op.bytesLess, Bool.or_eq_true, decide_eq_true_eq, Bool.and_eq_true, beq_iff_eq]
  split
  ·rename_i h; simp [h]
  ·rename_i h
   split
   ·rename_i h2
    have : a ≠ b := by rintro rfl; exact absurd h2 (UInt8.lt_irrefl _)
    simp [h, this]
   ·rename_i h2
    have : a = b := UInt8.le_antisymm (UInt8.not_lt.1 h2) (UInt8.not_lt.1 h)
    subst this
    simp [cmpB_lt]
theorem cmpB_eq : ∀ {a b : List UInt8}, Lib.compareBytes a b = 0 ↔ a = b
 | [], [] => by simp [Lib.compareBytes]
 | [], _ :: _ => by simp [Lib.compareBytes]
 | _ :: _, [] => by simp [Lib.compareBytes]
 | a :: l, b :: m => by
  rw [Lib.compareBytes]
  split
  ·rename_i h
   have : a ≠ b := by rintro rfl; exact absurd h (UInt8.lt_irrefl _)
   simp [this]
  ·rename_i h
   split
   ·rename_i h2
    have : a ≠ b := by rintro rfl; exact absurd h2 (UInt8.lt_irrefl _)
    simp [this]
   ·rename_i h2
    have : a = b := UInt8.le_antisymm (UInt8.not_lt.1 h2) (UInt8.not_lt.1 h)
    subst this
    simp [cmpB_eq]
theorem cmpS_lt {a b : ByteArray} : cmpS a b < 0 ↔ klt a b := by
 rw [cmpS, cmpB_lt, klt, ByteArray.toList_eq, ByteArray.toList_eq]
theorem cmpS_eq {a b : ByteArray} : cmpS a b = 0 ↔ a = b := by
 rw [cmpS, cmpB_eq]
 constructor
 ·intro h
  rcases a with ⟨⟨a⟩⟩
  rcases b with ⟨⟨b⟩⟩
  simp at h
  rw [h]
 ·rintro rfl; rfl
set_option maxHeartbeats 1000000 in
set_option maxRecDepth 100000 in
theorem cmpString_any (a b : ByteArray) (w : World) : Calls Tryz.prog 134 #[.string a, .string b] w fun e w' => e = .returned (.int .i64 (cmpS a b)) ∧ w' = w := by
 go_enter Tryz.func134, Tryz.ntmps134
 go_wp2
 rw [run_callFunc_extern Tryz.func180 (by kernel_rfl) (by kernel_rfl) (by kernel_rfl) (e := Extern.BytealgCompare.compare) (by kernel_rfl), Lib.run_compareString]
 simp only [Result.andThen]
 rw [Oper.upon_value]
 go_wp2
 go_ret
 exact ⟨rfl, rfl⟩
theorem cmpString_a (a b : ByteArray) : AC Tryz.prog 134 [.str a, .str b] (.int .i64 (cmpS a b)) := by
 refine ⟨by kernel_rfl, fun σ w vs hh hr hg => ?_⟩
 obtain ⟨hl, hr⟩ := hr
 obtain ⟨u, v, rfl⟩ : ∃ u v, vs = [u, v] := by
  match vs, hl with
  | [u, v], _ => exact ⟨u, v, rfl⟩
 have h1 : Rel1 σ u (.str a) := hr 0 _ _ rfl rfl
 have h2 : Rel1 σ v (.str b) := hr 1 _ _ rfl rfl
 cases h1
 cases h2
 refine (cmpString_any a b w).mono ?_
 rintro e w' ⟨rfl, rfl⟩
 exact ⟨σ, _, rfl, Ext.refl _ _, hh, Below.refl _ _, Rel1.int _ _⟩
theorem strCompare_a (a b : ByteArray) : AC Tryz.prog 97 [.str a, .str b] (.int .i64 (cmpS a b)) := by
 refine kE Tryz.func97 a_strings_Compare_ok a_strings_Compare_cb fun E hE => ?_
 refine kW ?_
 refine kP [.v (.int .i64 (cmpS a b))] ?_ ?_
 ·((repeat' apply And.intro) <;> first | exact kD | (intro hgd; refine ⟨?_, kG⟩; (repeat' apply And.intro) <;> first | exact kD | skip) | skip)
  ·exact cmpString_a a b
 refine kW ?_
 refine AK.ret ⟨_, rfl, ?_⟩
 rfl
theorem byKey_a (y : ByteArray) (x : V) (key : ByteArray) : AC Tryz.prog 58 [.agg (.str y :: (vC (x))), .str key] (.int .i64 (cmpS y key)) := by
 refine kE Tryz.func58 a_tree_byKey_ok a_tree_byKey_cb fun E hE => ?_
 refine kW ?_
 refine kP [.v (.int .i64 (cmpS y key))] ?_ ?_
 ·((repeat' apply And.intro) <;> first | exact kD | (intro hgd; refine ⟨?_, kG⟩; (repeat' apply And.intro) <;> first | exact kD | skip) | skip)
  ·exact strCompare_a y key
 refine kW ?_
 refine AK.ret ⟨_, rfl, ?_⟩
 rfl
end Go.Proofs.YtnpkejnaeemgjaaGreatDoor
/-
 The search in a sorted map, walked.
-/
namespace Go.Proofs.YtnpkejnaeemgjaaGreatDoor
open Go.RowKit
def bless (key : ByteArray) (p : ByteArray × V) : Bool := decide (cmpS p.1 key < 0)
def bpos (key : ByteArray) (m : List (ByteArray × V)) : Nat := (m.takeWhile (bless key)).length
theorem bpos_le (key : ByteArray) (m : List (ByteArray × V)) : bpos key m ≤ m.length := (List.takeWhile_prefix _).length_le
theorem klt_trans {a b c : ByteArray} (h : klt a b) (k : klt b c) : klt a c := bl_trans h k
theorem bpos_lt {key : ByteArray} : ∀ {m : List (ByteArray × V)} {i : Nat} {p : ByteArray × V}, m.Pairwise (fun p q => klt p.1 q.1) → m[i]? = some p → (cmpS p.1 key < 0 ↔ i < bpos key m)
 | [], i, p, _, h => by simp at h
 | q :: m, i, p, hs, h => by
  rw [bpos, List.takeWhile_cons]
  by_cases hq : bless key q = true
  ·rw [if_pos hq, List.length_cons]
   cases i with
   | zero => simp at h; subst h; simpa [bless] using hq
   | succ i =>
    have := bpos_lt (key := key) (List.pairwise_cons.1 hs).2 (show m[i]? = some p by simpa using h)
    rw [bpos] at this
    rw [this]; omega
  ·rw [if_neg hq]
   simp only [List.length_nil, Nat.not_lt_zero, iff_false]
   intro hp
   cases i with
   | zero => simp at h; subst h; exact hq (by simpa [bless] using hp)
   | succ i =>
    have hqp := (List.pairwise_cons.1 hs).1 p (List.mem_of_getElem? (show m[i]? = some p by simpa using h))
    exact hq (by rw [bless, decide_eq_true_eq]; exact cmpS_lt.2 (klt_trans hqp (cmpS_lt.1 hp)))
def bfound (key : ByteArray) (m : List (ByteArray × V)) : Bool := match m[bpos key m]? with
 | some p => decide (cmpS p.1 key = 0)
 | none => false
theorem bfound_some {key : ByteArray} {m : List (ByteArray × V)} (hs : m.Pairwise (fun p q => klt p.1 q.1)) {x : V} (h : mfind key m = some x) : m[bpos key m]? = some (key, x) ∧ bfound key m = true := by
 obtain ⟨i, hi⟩ := List.getElem?_of_mem (mem_of_mfind h)
 have h1 := bpos_lt (key := key) hs hi
 have h0 : cmpS key key = 0 := cmpS_eq.2 rfl
 have h2 : ¬ i < bpos key m := by rw [← h1]; simp [h0]
 have h3 : ¬ bpos key m < i := by
  intro hlt
  obtain ⟨hil, he⟩ := List.getElem?_eq_some_iff.1 hi
  have hg : m[bpos key m]? = some (m[bpos key m]'(by omega)) := List.getElem?_eq_getElem _
  have h4 := bpos_lt (key := key) hs hg
  have h5 := List.pairwise_iff_getElem.1 hs (bpos key m) i (by omega) hil hlt
  rw [he] at h5
  exact absurd (h4.1 (cmpS_lt.2 h5)) (by omega)
 have h4 : i = bpos key m := by omega
 rw [h4] at hi
 exact ⟨hi, by rw [bfound, hi]; simp [h0]⟩
theorem bfound_none {key : ByteArray} {m : List (ByteArray × V)} (h : mfind key m = none) : bfound key m = false := by
 rw [bfound]
 split
 ·rename_i p hp
  refine decide_eq_false fun h0 => ?_
  have he := cmpS_eq.1 h0
  have hm := List.mem_of_getElem? hp
  have : ∀ {m : List (ByteArray × V)}, mfind key m = none → ∀ p ∈ m, p.1 ≠ key := by
   intro m
   induction m with
   | nil => intro _ p hp; cases hp
   | cons q m ih =>
    obtain ⟨y, x⟩ := q
    intro h p hp
    rw [mfind] at h
    split at h
    ·cases h
    ·rename_i hne
     rcases List.mem_cons.1 hp with rfl | hp
     ·exact hne
     ·exact ih h p hp
  exact this h p hm he
 ·rfl
theorem midpt_eq {lo hi : Nat} (h : lo + hi ≤ 1000000000000000) : IntKind.i64.wrap ((IntKind.u64.wrap (IntKind.i64.wrap ((lo : Int) + hi))).fdiv (2 ^ (min (1 : Int).toNat IntKind.u64.bits))) = (((lo + hi) / 2 : Nat) : Int) := by
 rw [wrap_in (n := (lo : Int) + hi) (by omega) (by omega)]
 have h1 : IntKind.u64.wrap ((lo : Int) + hi) = (lo : Int) + hi := by
  simp only [IntKind.wrap, IntKind.signed, IntKind.bits]
  simp
  omega
 have h2 : ((lo : Int) + hi).fdiv (2 ^ (min (1 : Int).toNat IntKind.u64.bits)) = (((lo + hi) / 2 : Nat) : Int) := by
  have : (2 : Int) ^ (min (1 : Int).toNat IntKind.u64.bits) = 2 := by decide
  rw [this, Int.fdiv_eq_ediv_of_nonneg _ (by decide)]
  omega
 rw [h1, h2, wrap_in (by omega) (by omega)]
theorem bfound_eq {key y : ByteArray} {x : V} {m : List (ByteArray × V)} (hg : bpos key m < m.length → m[bpos key m]? = some (y, x)) : bfound key m = (decide ((bpos key m : Int) < (rowsM m).length) && decide (cmpS y key = 0)) := by
 rw [rowsM_len, bfound]
 by_cases h : bpos key m < m.length
 ·rw [hg h, decide_eq_true (by omega : (bpos key m : Int) < m.length)]
  simp
 ·rw [List.getElem?_eq_none (by omega), decide_eq_false (by omega : ¬ (bpos key m : Int) < m.length)]
  rfl
set_option maxRecDepth 4000 in
theorem bsearch_a (m : List (ByteArray × V)) (key : ByteArray) (hs : m.Pairwise (fun p q => klt p.1 q.1)) (hl : m.length ≤ 2000000000000) :
  AC Tryz.prog 57 [.lst .any 7 (rowsM m), .str key, .fn 58 []] (.tup [.int .i64 (bpos key m : Nat), .bool (bfound key m)]) := by
 have hbl := bpos_le key m
 refine kE Tryz.func57 a_slices_BinarySearchFunc_string_ok a_slices_BinarySearchFunc_string_cb fun E hE => ?_
 refine kW ?_
 refine AK.loopI (fun i : Nat × Nat => (frOf [(0, .lst .any 7 (rowsM m)), (1, .str key), (2, .fn 58 []), (8, .int .i64 (rowsM m).length), (9, .int .i64 i.1), (10, .int .i64 i.2)], ⟨boxOf [], fun _ => 0⟩))
  (fun i => i.1 ≤ bpos key m ∧ bpos key m ≤ i.2 ∧ i.2 ≤ m.length) (fun i => i.2 - i.1) (0, m.length) ⟨by simp, hbl, by simp⟩ (Weak.intro ⟨kI, kI, kI, kI, kI, ⟨_, rfl, .of_eq (by rw [rowsM_len])⟩, trivial⟩ trivial rfl rfl) fun ⟨lo, hi⟩ ⟨h1, h2, h3⟩ => ?_
 dsimp only at h1 h2 h3
 refine kW ?_
 refine kC (fun hb => ?_) fun hb => ?_
 ·have hlt : lo < hi := by simpa using hb
  refine kW ?_
  refine kQ [] ?_
  refine AK.weak (fr' := frOf [(0, .lst .any 7 (rowsM m)), (1, .str key), (2, .fn 58 []), (8, .int .i64 (rowsM m).length), (9, .int .i64 lo), (10, .int .i64 hi), (11, .int .i64 ((lo + hi) / 2 : Nat))]) (st' := ⟨boxOf [], fun _ => 0⟩) (Weak.intro ⟨kI, kI, kI, kI, kI, kI, ⟨_, rfl, .of_eq (congrArg _ (midpt_eq (by omega)))⟩, trivial⟩ trivial rfl rfl) ?_
  obtain ⟨mid, hmid⟩ : ∃ mid, mid = (lo + hi) / 2 := ⟨_, rfl⟩
  rw [← hmid]
  have hm1 : lo ≤ mid := by omega
  have hm2 : mid < hi := by omega
  obtain ⟨⟨y, x⟩, hg⟩ : ∃ x, m[mid]? = some x := ⟨_, List.getElem?_eq_getElem (by omega)⟩
  have hlb := bpos_lt (key := key) hs hg
  refine kW ?_
  refine kP [.c (.str y :: (vC (x))), .v (.int .i64 (cmpS y key))] ?_ ?_
  ·((repeat' apply And.intro) <;> first | exact kD | (intro hgd; refine ⟨?_, kG⟩; (repeat' apply And.intro) <;> first | exact kD | skip) | skip)
   ·exact rowsM_at hg
   ·exact byKey_a y x key
  refine kC (fun hb => ?_) fun hb => ?_
  ·have hk : mid < bpos key m := hlb.1 (by simpa using hb)
   refine kW ?_
   exact AK.lp ⟨(mid + 1, hi), ⟨by dsimp only; omega, h2, h3⟩, Weak.intro ⟨kI, kI, kI, kI, kU, kI, trivial⟩ trivial rfl rfl, by dsimp only; omega⟩
  ·have hk : ¬ mid < bpos key m := fun h => absurd (hlb.2 h) (by simpa using hb)
   refine kW ?_
   exact AK.lp ⟨(lo, mid), ⟨h1, by dsimp only; omega, by dsimp only; omega⟩, Weak.intro ⟨kI, kI, kI, kI, kI, kU, trivial⟩ trivial rfl rfl, by dsimp only; omega⟩
 ·have hlt : lo = bpos key m := by have : hi ≤ lo := by simpa using hb
                                   omega
  subst hlt
  refine AK.exit rfl ?_
  refine kW ?_
  obtain ⟨y, x, hg⟩ : ∃ y x, bpos key m < m.length → m[bpos key m]? = some (y, x) := by
   by_cases h : bpos key m < m.length
   ·exact ⟨_, _, fun _ => List.getElem?_eq_getElem h⟩
   ·exact ⟨key, V.null, fun h' => absurd h' h⟩
  refine kP [.c (.str y :: (vC (x))), .v (.int .i64 (cmpS y key))] ?_ ?_
  ·((repeat' apply And.intro) <;> first | exact kD | (intro hgd; refine ⟨?_, kG⟩; (repeat' apply And.intro) <;> first | exact kD | skip) | skip)
   ·exact rowsM_at (hg (by simpa [gd, rowsM_len] using hgd))
   ·exact byKey_a y x key
  refine kW ?_
  refine AK.ret ⟨_, rfl, ?_⟩
  rw [bfound_eq hg]
  rfl
end Go.Proofs.YtnpkejnaeemgjaaGreatDoor
/-
 What stands in a map, what stands at a path, in the program; walked.
-/
namespace Go.Proofs.YtnpkejnaeemgjaaGreatDoor
open Go.RowKit
def CloneOk : Prop := ∀ v : V, v.size ≤ 1000000000000 → AC Tryz.prog 59 [(vA (v))] ((vA (v)))
theorem good_nomap {v : V} (hg : v.good) (hk : v.kind ≠ 5) : v.m = [] := by
 cases hm : v.m with
 | nil => rfl
 | cons p m => exact absurd (good_kind hg (by rw [hm]; simp)) hk
end Go.Proofs.YtnpkejnaeemgjaaGreatDoor
