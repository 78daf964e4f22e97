/-
  The texts that the claim wants, one behind the other: part 17.
-/
import Derived.Test.YtgidajjjpeboeaaGreatDoorS16
import Derived.Shelf.Small.Bits
import Derived.Shelf.Small.Strs
import Derived.Shelf.Strconv.Atoi
import Derived.Shelf.Strconv.Itoa0
import Derived.Shelf.Strconv.Itoa1
import Derived.Shelf.LaysM
import Derived.Shelf.Strconv.Itoa2
import Derived.Shelf.Strconv.Itoa3
import Derived.Shelf.Strconv.AtoiErrFast
import Derived.Shelf.Strconv.ParseIntEmpty
import Derived.Shelf.Strconv.AtoiFail
import Derived.Shelf.Strconv.Clone
import Derived.Shelf.Strconv.SyntaxError
import Derived.Shelf.LaysC
import Derived.Shelf.Strconv.ToError
import Derived.Shelf.Strconv.Lower
import Derived.Shelf.Strconv.ParseUint10
import Derived.Shelf.Strconv.ParseUint10Empty
import Derived.Shelf.Strconv.ParseUint10Any
import Derived.Shelf.Strconv.ParseInt10
import Derived.Shelf.Strconv.AtoiLong
import Derived.Shelf.Strconv.AtoiInnerAll
import Derived.Shelf.Strconv.RangeError
import Derived.Shelf.Strconv.ToErrorRange
import Derived.Shelf.Strconv.AtoiAll
import Derived.Shelf.Strings.Search1
import Derived.Shelf.Strings.Search2
import Derived.Shelf.Strings.Search3
import Derived.Shelf.Strings.Shaped
import Derived.Shelf.Strings.LastIndex
import Derived.Shelf.Strings.LastIndexAll
import Derived.Test.YtgidajjjpeboeaaGreatDoorProg
set_option linter.unusedSimpArgs false
set_option linter.unusedVariables false
namespace Go.Proofs
abbrev synR := Lib.atoiAll []
open Go.Shelf
def Tryz.lays137_ren : Go.Shelf.Ren := ⟨fun | 137 => 156 | 217 => 189 | 266 => 201 | n => n, fun | 9 => 9 | 5 => 5 | 3 => 3 | n => n, fun | n => n⟩
theorem Tryz.lays137 : Go.Proofs.Lays.n137 Tryz.prog Tryz.lays137_ren := {
 mixed := by kernel_rfl
 f137 := Tryz.func156.trans (congrArg some (by kernel_rfl))
 f217 := Tryz.func189.trans (congrArg some (by kernel_rfl))
 f266 := Tryz.func201.trans (congrArg some (by kernel_rfl))
 t3 := Tryz.underlying3
 a3 := Tryz.isAgg3
 z3 := Tryz.sizeOf3
 v3 := Tryz.zeroValue3
 t5 := Tryz.underlying5
 a5 := Tryz.isAgg5
 z5 := Tryz.sizeOf5
 v5 := Tryz.zeroValue5
 t9 := Tryz.underlying9
 a9 := Tryz.isAgg9
 z9 := Tryz.sizeOf9
 v9 := Tryz.zeroValue9 }
open Go.RowKit in
theorem Tryz.strings_IndexByte (s : ByteArray) (c : Int) (w : World) :
  Calls Tryz.prog 156 #[.string s, .int .u8 c] w fun e w' => e = .returned (.int .i64 (Lib.indexByte s.data.toList c.toNat.toUInt8)) ∧ w' = w := Any.strings_IndexByte Tryz.lays137 s c w
def Tryz.lays144_ren : Go.Shelf.Ren := ⟨fun | 144 => 96 | 143 => 157 | 219 => 190 | 217 => 189 | 225 => 202 | 224 => 203 | 267 => 204 | 266 => 201 | 314 => 209 | n => n, fun | 9 => 9 | 4 => 4 | 3 => 3 | 5 => 5 | 46 => 130 | 146 => 199 | 51 => 175 | n => n, fun | 1 => 1 | n => n⟩
theorem Tryz.lays144 : Go.Proofs.Lays.n144 Tryz.prog Tryz.lays144_ren := {
 mixed := by kernel_rfl
 f143 := Tryz.func157.trans (congrArg some (by kernel_rfl))
 f144 := Tryz.func96.trans (congrArg some (by kernel_rfl))
 f217 := Tryz.func189.trans (congrArg some (by kernel_rfl))
 f219 := Tryz.func190.trans (congrArg some (by kernel_rfl))
 f224 := Tryz.func203.trans (congrArg some (by kernel_rfl))
 f225 := Tryz.func202.trans (congrArg some (by kernel_rfl))
 f266 := Tryz.func201.trans (congrArg some (by kernel_rfl))
 f267 := Tryz.func204.trans (congrArg some (by kernel_rfl))
 f314 := Tryz.func209.trans (congrArg some (by kernel_rfl))
 t3 := Tryz.underlying3
 a3 := Tryz.isAgg3
 z3 := Tryz.sizeOf3
 v3 := Tryz.zeroValue3
 t4 := Tryz.underlying4
 a4 := Tryz.isAgg4
 z4 := Tryz.sizeOf4
 v4 := Tryz.zeroValue4
 t5 := Tryz.underlying5
 a5 := Tryz.isAgg5
 z5 := Tryz.sizeOf5
 v5 := Tryz.zeroValue5
 t9 := Tryz.underlying9
 a9 := Tryz.isAgg9
 z9 := Tryz.sizeOf9
 v9 := Tryz.zeroValue9
 t46 := Tryz.underlying130
 a46 := Tryz.isAgg130
 z46 := Tryz.sizeOf130
 v46 := Tryz.zeroValue130
 t51 := Tryz.underlying175
 a51 := Tryz.isAgg175
 z51 := Tryz.sizeOf175
 v51 := Tryz.zeroValue175
 t146 := Tryz.underlying199
 a146 := Tryz.isAgg199
 z146 := Tryz.sizeOf199
 v146 := Tryz.zeroValue199
 g1 := by kernel_rfl }
open Go.RowKit Go.Lib in
theorem Tryz.strings_Contains_one (s : ByteArray) (c : UInt8) (w : World) :
  Calls Tryz.prog 96 #[.string s, .string ⟨#[c]⟩] w fun e w' => e = .returned (.bool (decide (0 ≤ Lib.indexByte s.data.toList c))) ∧ w' = w := Any.strings_Contains_one Tryz.lays144 s c w
end Go.Proofs
namespace Go.Proofs.YtgidajjjpeboeaaGreatDoor
open Go.RowKit
theorem indexByte_a (s : ByteArray) (c : Int) : AC Tryz.prog 156 [.str s, .int .u8 c] (.int .i64 (Lib.indexByte s.data.toList c.toNat.toUInt8)) := by
 refine ⟨by kernel_rfl, fun σ w vs hh hr hg => ?_⟩
 have hl : vs.length = 2 := hr.1
 obtain ⟨v1, v2, rfl⟩ : ∃ a b, vs = [a, b] := by
  rcases vs with _ | ⟨a, _ | ⟨b, _ | ⟨d, l⟩⟩⟩ <;> simp at hl
  exact ⟨a, b, rfl⟩
 have h1 : Rel1 σ v1 (.str s) := hr.2 0 v1 _ rfl rfl
 have h2 : Rel1 σ v2 (.int .u8 c) := hr.2 1 v2 _ rfl rfl
 cases h1; cases h2
 refine (Tryz.strings_IndexByte s c w).mono ?_
 rintro e w' ⟨rfl, rfl⟩
 exact ⟨σ, _, rfl, Ext.refl _ _, hh, Below.refl _ _, .int _ _⟩
theorem letter_a (c : Nat) : AC Tryz.prog 154 [.int .u8 c] (.bool (letN c)) := by
 refine kE Tryz.func154 a_scalar_letter_ok a_scalar_letter_cb fun E hE => ?_
 refine kW ?_
 refine kQ [] ?_
 refine kW ?_
 refine AK.ret ⟨_, rfl, ?_⟩
 refine congrArg AV.bool ?_
 rw [Bool.eq_iff_iff]
 simp only [letN, Bool.or_eq_true, Bool.and_eq_true, decide_eq_true_eq]
 omega
theorem digit_a (c : Nat) : AC Tryz.prog 155 [.int .u8 c] (.bool (decide (48 ≤ c) && decide (c ≤ 57))) := by
 refine kE Tryz.func155 a_scalar_digit_ok a_scalar_digit_cb fun E hE => ?_
 refine kW ?_
 refine kQ [] ?_
 refine kW ?_
 refine AK.ret ⟨_, rfl, ?_⟩
 refine congrArg AV.bool ?_
 rw [Bool.eq_iff_iff]
 simp only [Bool.and_eq_true, decide_eq_true_eq]
 omega
end Go.Proofs.YtgidajjjpeboeaaGreatDoor
/-
 Words: which texts are bare: the program's function, walked.
-/
namespace Go.Proofs.YtgidajjjpeboeaaGreatDoor
open Go.RowKit
theorem idx4_all : (List.range 256).all (fun c => decide (Lib.indexByte [95, 45, 46, 47] (c : Int).toNat.toUInt8 < 0) == !(decide (c = 95) || decide (c = 45) || decide (c = 46) || decide (c = 47))) = true := by kernel_rfl
theorem idx4 {c : Nat} (h : c < 256) : decide (Lib.indexByte [95, 45, 46, 47] (c : Int).toNat.toUInt8 < 0) = !(decide (c = 95) || decide (c = 45) || decide (c = 46) || decide (c = 47)) :=
 eq_of_beq (List.all_eq_true.1 idx4_all c (List.mem_range.2 h))
theorem ba_empty {s : ByteArray} (h : s.size = 0) : s = ⟨#[]⟩ := by
 cases s with
 | mk d => exact congrArg ByteArray.mk (Array.eq_empty_of_size_eq_zero h)
theorem bare_a (s : ByteArray) (hs : s.size ≤ 140737488355328) : AC Tryz.prog 95 [.str s] (.bool (bareB s)) := by
 refine kE Tryz.func95 a_scalar_Bare_ok a_scalar_Bare_cb fun E hE => ?_
 refine kW ?_
 refine AK.loopI (fun k : Nat => (frOf [(0, .str s), (6, .int .i64 s.size), (7, .int .i64 k)], ⟨boxOf [], fun _ => 0⟩)) (fun k => k ≤ s.size ∧ ∀ j, (h : j < s.size) → j < k → bareAt j s[j].toNat = true) (fun k => s.size - k) 0 ⟨by omega, fun j h h2 => by omega⟩ (Weak.intro ⟨kI, kI, kI, trivial⟩ trivial rfl rfl) fun k ⟨hk, hno⟩ => ?_
 refine kW ?_
 refine kC (fun hb => ?_) fun hb => ?_
 ·have hlt : k < s.size := by simpa using hb
  have hc : s[k].toNat < 256 := s[k].toNat_lt
  refine kW ?_
  refine kQ [] ?_
  rw [show s.data.getD (k : Int).toNat 0 = s[k] from byte_at hlt]
  refine kW ?_
  refine kP [.v (.bool (letN s[k].toNat)), .v (.bool (decide (48 ≤ s[k].toNat) && decide (s[k].toNat ≤ 57))), .v (.int .i64 (Lib.indexByte [95, 45, 46, 47] ((s[k].toNat : Nat) : Int).toNat.toUInt8))] ?_ ?_
  ·((repeat' apply And.intro) <;> first | exact kD | (intro hgd; refine ⟨?_, kG⟩; (repeat' apply And.intro) <;> first | exact kD | skip) | skip)
   all_goals first | exact letter_a _ | exact digit_a _ | exact indexByte_a ⟨#[95, 45, 46, 47]⟩ _
  rw [idx4 hc]
  refine kC (fun hb => ?_) fun hb => ?_
  ·have hf : bareAt k s[k].toNat = false := by
    simp only [Bool.or_eq_true, Bool.and_eq_true, Bool.not_eq_true', Bool.or_eq_false_iff, Bool.and_eq_false_iff, decide_eq_true_eq, decide_eq_false_iff_not] at hb
    simp only [bareAt, moreN, Bool.or_eq_false_iff, Bool.and_eq_false_iff, Bool.not_eq_false', decide_eq_true_eq, decide_eq_false_iff_not]
    refine ⟨hb.1, ?_⟩
    omega
   refine kW ?_
   refine AK.ret ⟨_, rfl, ?_⟩
   rw [bareB_no hlt hf]
   rfl
  ·have ht : bareAt k s[k].toNat = true := by
    simp only [Bool.or_eq_true, Bool.and_eq_true, Bool.not_eq_false', Bool.or_eq_false_iff, Bool.and_eq_false_iff, decide_eq_true_eq, decide_eq_false_iff_not] at hb
    simp only [bareAt, moreN, Bool.or_eq_true, Bool.and_eq_true, Bool.not_eq_true', decide_eq_true_eq, decide_eq_false_iff_not]
    rcases hb with hb | hb
    ·exact .inl hb
    ·refine .inr ?_
     omega
   refine kW ?_
   exact AK.lp ⟨k + 1, ⟨by omega, fun j h h2 => by
    by_cases e : j = k
    ·subst e; exact ht
    ·exact hno j h (by omega)⟩, Weak.intro ⟨kI, kI, kU, trivial⟩ trivial rfl rfl, by omega⟩
 ·have hlt : s.size ≤ k := by simpa using hb
  have hall : decide (∀ k, (h : k < s.size) → bareAt k s[k].toNat = true) = true := decide_eq_true fun j h => hno j h (by omega)
  have hne : ∀ t : ByteArray, bareWord t = true → s = t → bareB s = false := fun t ht e => by rw [e, bareB, ht]; rfl
  refine AK.exit rfl ?_
  refine kW ?_
  refine kC (fun hb => ?_) fun hb => ?_
  ·have e : s = ⟨#[]⟩ := of_decide_eq_true hb
   have hb0 := hb
   refine kW ?_
   refine kC (fun hb => ?_) fun hb => ?_
   ·refine kW ?_
    refine AK.ret ⟨_, rfl, ?_⟩
    rw [hne _ (by kernel_rfl) e]
    rfl
   ·rw [hb0] at hb
    cases hb
  have n0 : s ≠ ⟨#[]⟩ := of_decide_eq_false hb
  refine kW ?_
  refine kC (fun hb => ?_) fun hb => ?_
  ·have e : s = ⟨#[110, 117, 108, 108]⟩ := of_decide_eq_true hb
   have hb0 := hb
   refine kW ?_
   refine kC (fun hb => ?_) fun hb => ?_
   ·refine kW ?_
    refine AK.ret ⟨_, rfl, ?_⟩
    rw [hne _ (by kernel_rfl) e]
    rfl
   ·rw [hb0] at hb
    cases hb
  have n1 : s ≠ ⟨#[110, 117, 108, 108]⟩ := of_decide_eq_false hb
  refine kW ?_
  refine kC (fun hb => ?_) fun hb => ?_
  ·have e : s = ⟨#[116, 114, 117, 101]⟩ := of_decide_eq_true hb
   have hb0 := hb
   refine kW ?_
   refine kC (fun hb => ?_) fun hb => ?_
   ·refine kW ?_
    refine AK.ret ⟨_, rfl, ?_⟩
    rw [hne _ (by kernel_rfl) e]
    rfl
   ·rw [hb0] at hb
    cases hb
  have n2 : s ≠ ⟨#[116, 114, 117, 101]⟩ := of_decide_eq_false hb
  refine kW ?_
  refine kC (fun hb => ?_) fun hb => ?_
  ·have e : s = ⟨#[102, 97, 108, 115, 101]⟩ := of_decide_eq_true hb
   refine kW ?_
   refine AK.ret ⟨_, rfl, ?_⟩
   rw [hne _ (by kernel_rfl) e]
   rfl
  have n3 : s ≠ ⟨#[102, 97, 108, 115, 101]⟩ := of_decide_eq_false hb
  refine kW ?_
  refine AK.ret ⟨_, rfl, ?_⟩
  have hz : s.size ≠ 0 := fun h => n0 (ba_empty h)
  have hw : bareWord s = false := by
   unfold bareWord
   rw [decide_eq_false hz, decide_eq_false n1, decide_eq_false n2, decide_eq_false n3]
   rfl
  have : bareB s = true := by
   rw [bareB, hw, hall]
   rfl
  rw [this]
  rfl
def noSl (s : ByteArray) : Bool := decide (∀ k, (h : k < s.size) → s[k].toNat ≠ 47)
def wordOkB (s : ByteArray) : Bool := noSl s && (bareB s && decide (s.size ≤ 64))
theorem noSl_no {s : ByteArray} {k : Nat} (h : k < s.size) (hb : s[k].toNat = 47) : noSl s = false := decide_eq_false fun hA => hA k h hb
theorem idx47 : ∀ (l : List UInt8), decide (0 ≤ Lib.indexByte l 47) = decide ((47 : UInt8) ∈ l)
 | [] => rfl
 | b :: l => by
  rw [Lib.indexByte]
  have ih := idx47 l
  by_cases h : b = 47
  ·subst h; simp
  ·have hb : (b == 47) = false := by simpa using h
   rw [hb]
   have e : decide ((47 : UInt8) ∈ b :: l) = decide ((47 : UInt8) ∈ l) := by
    rw [Bool.eq_iff_iff, decide_eq_true_eq, decide_eq_true_eq, List.mem_cons]
    exact ⟨fun h' => h'.resolve_left fun e => h e.symm, .inr⟩
   rw [e, ← ih]
   by_cases h1 : Lib.indexByte l 47 = -1
   ·simp [h1]
   ·have hge : -1 ≤ Lib.indexByte l 47 := by
     clear ih e h1
     induction l with
     | nil => decide
     | cons c l ih => rw [Lib.indexByte]; split <;> (try split) <;> omega
    have h2 : (Lib.indexByte l 47 == -1) = false := by simpa using h1
    simp only [Bool.false_eq_true, if_false, h2]
    rw [Bool.eq_iff_iff, decide_eq_true_eq, decide_eq_true_eq]
    omega
theorem noSl_mem (s : ByteArray) : (!decide ((47 : UInt8) ∈ s.data.toList)) = noSl s := by
 rw [Bool.eq_iff_iff, noSl, Bool.not_eq_true', decide_eq_false_iff_not, decide_eq_true_eq]
 constructor
 ·intro h k hk e
  refine h ?_
  have : s[k] = 47 := UInt8.toNat_inj.1 e
  rw [← this]
  exact Array.mem_toList_iff.2 (Array.getElem_mem hk)
 ·intro h hm
  obtain ⟨k, hk, e⟩ := List.getElem_of_mem hm
  have hk' : k < s.size := by simpa using hk
  refine h k hk' ?_
  have : s[k] = 47 := by rw [← e]; rfl
  rw [this]; rfl
theorem contains47_a (s : ByteArray) : AC Tryz.prog 96 [.str s, .str ⟨#[47]⟩] (.bool (!noSl s)) := by
 refine ⟨by kernel_rfl, fun σ w vs hh hr hg => ?_⟩
 have hl : vs.length = 2 := hr.1
 obtain ⟨v1, v2, rfl⟩ : ∃ a b, vs = [a, b] := by
  rcases vs with _ | ⟨a, _ | ⟨b, _ | ⟨d, l⟩⟩⟩ <;> simp at hl
  exact ⟨a, b, rfl⟩
 have h1 : Rel1 σ v1 (.str s) := hr.2 0 v1 _ rfl rfl
 have h2 : Rel1 σ v2 (.str ⟨#[47]⟩) := hr.2 1 v2 _ rfl rfl
 cases h1; cases h2
 refine (Tryz.strings_Contains_one s 47 w).mono ?_
 rintro e w' ⟨rfl, rfl⟩
 rw [idx47, ← noSl_mem, Bool.not_not]
 exact ⟨σ, _, rfl, Ext.refl _ _, hh, Below.refl _ _, .bool _⟩
theorem Holds.on {σ : Sg} {w w' : World} (hh : Holds σ w) (hb : Below w.heap.size w w') : Holds σ w' := fun b q v hv => (hb.cell (p := ⟨b, q, none⟩) (World.block_lt_of_cell? w _ (hh _ _ _ hv))).trans (hh _ _ _ hv)
end Go.Proofs.YtgidajjjpeboeaaGreatDoor
