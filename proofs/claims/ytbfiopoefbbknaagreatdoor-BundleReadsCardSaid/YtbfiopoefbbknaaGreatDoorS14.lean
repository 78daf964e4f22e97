/-
  The texts that the claim wants, one behind the other: part 14.
-/
import Derived.Test.YtbfiopoefbbknaaGreatDoorS13
import Derived.Lib.Strings
set_option linter.unusedSimpArgs false
set_option linter.unusedVariables false
namespace Go.Proofs.YtbfiopoefbbknaaGreatDoor
open Go.RowKit
def quoteC (c : UInt8) : ByteArray := if c = 10 then ⟨#[92, 110]⟩ else if c = 9 then ⟨#[92, 116]⟩ else if c = 34 ∨ c = 92 then ⟨#[92, c]⟩ else ⟨#[c]⟩
def quoteP (s : ByteArray) : Nat → ByteArray
 | 0 => ⟨#[34]⟩
 | k + 1 => quoteP s k ++ quoteC (s.data.getD k 0)
def quoteB (s : ByteArray) : ByteArray := quoteP s s.size ++ ⟨#[34]⟩
theorem quoteC_size (c : UInt8) : (quoteC c).size ≤ 2 := by
 unfold quoteC
 split
 ·decide
 ·split
  ·decide
  ·split <;> simp [ByteArray.size]
theorem quoteP_size (s : ByteArray) (k : Nat) : (quoteP s k).size ≤ 1 + 2 * k := by
 induction k with
 | zero => simp [quoteP, ByteArray.size]
 | succ k ih =>
  have := quoteC_size (s.data.getD k 0)
  rw [quoteP, ByteArray.size_append]
  omega
theorem ext_one {s : ByteArray} {k : Nat} (h : k < s.size) : s.extract k (k + 1) = ⟨#[s[k]]⟩ := by
 rw [Lib.extract_eq]
 have h2 : k < s.data.toList.length := h
 rw [List.drop_eq_getElem_cons h2, Nat.add_sub_cancel_left, List.take_succ_cons, List.take_zero]
 rfl
theorem wrap_s {n : Int} (h0 : 0 ≤ n) (h1 : n ≤ 9223372036854775807) : (IntKind.i64.wrap n).toNat = n.toNat := by rw [wrap_in (by omega) h1]
theorem ba_app (a b c : ByteArray) : a ++ b ++ c = a ++ (b ++ c) := ByteArray.append_assoc
theorem refQuote_a (s : ByteArray) (hs : s.size ≤ 140737488355328) : AC Tryz.prog 121 [.str s] (.str (quoteB s)) := by
 have z1 : (ByteArray.mk #[92, 110]).size = 2 := rfl
 have z2 : (ByteArray.mk #[92, 116]).size = 2 := rfl
 have z3 : (ByteArray.mk #[92]).size = 1 := rfl
 have z4 : (ByteArray.mk #[34]).size = 1 := rfl
 refine kE Tryz.func121 a_ref04_Quote_ok a_ref04_Quote_cb fun E hE => ?_
 refine kW ?_
 refine AK.loopI (fun k : Nat => (frOf [(0, .str s), (3, .str (quoteP s k)), (4, .int .i64 k)], ⟨boxOf [], fun _ => 0⟩)) (fun k => k ≤ s.size) (fun k => s.size - k) 0 (Nat.zero_le _) (Weak.intro ⟨kI, kI, kI, trivial⟩ trivial rfl rfl) fun k hk => ?_
 have hq := quoteP_size s k
 refine kW ?_
 refine kC (fun hb => ?_) fun hb => ?_
 ·have hlt : k < s.size := by simpa using hb
  have hst : quoteP s (k + 1) = quoteP s k ++ quoteC s[k] := by rw [quoteP, byte_at hlt]
  have hw : (IntKind.i64.wrap ((k : Int) + 1)).toNat = k + 1 := by rw [wrap_s (by omega) (by omega)]; omega
  have hw2 : IntKind.i64.wrap ((k : Int) + 1) = (k : Int) + 1 := wrap_in (by omega) (by omega)
  have hx : s.extract (k : Int).toNat (IntKind.i64.wrap ((k : Int) + 1)).toNat = ⟨#[s[k]]⟩ := by rw [hw]; exact ext_one hlt
  have z5 : (ByteArray.mk #[s[k]]).size = 1 := rfl
  refine kW ?_
  refine kQ [] ?_
  rw [show s.data.getD (k : Int).toNat 0 = s[k] from byte_at hlt]
  refine kW ?_
  refine kC (fun hb => ?_) fun hb => ?_
  ·have e : s[k] = 10 := UInt8.toNat_inj.1 (by have : ((s[k].toNat : Nat) : Int) = 10 := by simpa using hb
                                               show s[k].toNat = 10; omega)
   have e2 : quoteC s[k] = ⟨#[92, 110]⟩ := by rw [e]; rfl
   refine kW ?_
   refine kQ [] ?_
   refine kW ?_
   exact AK.lp ⟨k + 1, by omega, Weak.intro ⟨kI, ⟨_, rfl, .of_eq (congrArg AV.str (by rw [hst, e2]))⟩, kU, trivial⟩ trivial rfl rfl, by omega⟩
  have n10 : s[k] ≠ 10 := fun e => by rw [e] at hb; cases hb
  refine kW ?_
  refine kC (fun hb => ?_) fun hb => ?_
  ·have e : s[k] = 9 := UInt8.toNat_inj.1 (by have : ((s[k].toNat : Nat) : Int) = 9 := by simpa using hb
                                              show s[k].toNat = 9; omega)
   have e2 : quoteC s[k] = ⟨#[92, 116]⟩ := by rw [e]; rfl
   refine kW ?_
   refine kQ [] ?_
   refine kW ?_
   exact AK.lp ⟨k + 1, by omega, Weak.intro ⟨kI, ⟨_, rfl, .of_eq (congrArg AV.str (by rw [hst, e2]))⟩, kU, trivial⟩ trivial rfl rfl, by omega⟩
  have n9 : s[k] ≠ 9 := fun e => by rw [e] at hb; cases hb
  have e3 : (s[k] = 34 ∨ s[k] = 92) → quoteC s[k] = ⟨#[92]⟩ ++ ⟨#[s[k]]⟩ := fun e => by
   rw [quoteC, if_neg n10, if_neg n9, if_pos e]
   rfl
  refine kW ?_
  refine kC (fun hb => ?_) fun hb => ?_
  ·have e : s[k] = 34 := UInt8.toNat_inj.1 (by have : ((s[k].toNat : Nat) : Int) = 34 := by simpa using hb
                                               show s[k].toNat = 34; omega)
   have hb34 := hb
   refine kW ?_
   refine kC (fun hb => ?_) fun hb => ?_
   ·refine kW ?_
    refine kP [] ?_ ?_
    ·((repeat' apply And.intro) <;> first | exact kD | (intro hgd; refine ⟨?_, kG⟩; (repeat' apply And.intro) <;> first | exact kD | skip) | skip)
     all_goals first | (rw [hw2]; omega) | (rw [hx, ByteArray.size_append]; omega)
    refine kW ?_
    exact AK.lp ⟨k + 1, by omega, Weak.intro ⟨kI, ⟨_, rfl, .of_eq (congrArg AV.str (by rw [hst, e3 (.inl e), hx, ba_app]))⟩, kU, trivial⟩ trivial rfl rfl, by omega⟩
   ·rw [hb34] at hb
    cases hb
  have n34 : s[k] ≠ 34 := fun e => by rw [e] at hb; cases hb
  refine kW ?_
  refine kC (fun hb => ?_) fun hb => ?_
  ·have e : s[k] = 92 := UInt8.toNat_inj.1 (by have : ((s[k].toNat : Nat) : Int) = 92 := by simpa using hb
                                               show s[k].toNat = 92; omega)
   refine kW ?_
   refine kP [] ?_ ?_
   ·((repeat' apply And.intro) <;> first | exact kD | (intro hgd; refine ⟨?_, kG⟩; (repeat' apply And.intro) <;> first | exact kD | skip) | skip)
    all_goals first | (rw [hw2]; omega) | (rw [hx, ByteArray.size_append]; omega)
   refine kW ?_
   exact AK.lp ⟨k + 1, by omega, Weak.intro ⟨kI, ⟨_, rfl, .of_eq (congrArg AV.str (by rw [hst, e3 (.inr e), hx, ba_app]))⟩, kU, trivial⟩ trivial rfl rfl, by omega⟩
  have n92 : s[k] ≠ 92 := fun e => by rw [e] at hb; cases hb
  have e4 : quoteC s[k] = ⟨#[s[k]]⟩ := by rw [quoteC, if_neg n10, if_neg n9, if_neg (fun e => e.elim n34 n92)]
  refine kW ?_
  refine kP [] ?_ ?_
  ·((repeat' apply And.intro) <;> first | exact kD | (intro hgd; refine ⟨?_, kG⟩; (repeat' apply And.intro) <;> first | exact kD | skip) | skip)
   all_goals first | (rw [hw2]; omega) | (rw [hx]; omega)
  refine kW ?_
  exact AK.lp ⟨k + 1, by omega, Weak.intro ⟨kI, ⟨_, rfl, .of_eq (congrArg AV.str (by rw [hst, e4, hx]))⟩, kU, trivial⟩ trivial rfl rfl, by omega⟩
 ·have hlt : k = s.size := by have : s.size ≤ k := by simpa using hb
                              omega
  subst hlt
  refine AK.exit rfl ?_
  refine kW ?_
  refine kQ [] ?_
  refine kW ?_
  refine AK.ret ⟨_, rfl, ?_⟩
  rfl
end Go.Proofs.YtbfiopoefbbknaaGreatDoor
