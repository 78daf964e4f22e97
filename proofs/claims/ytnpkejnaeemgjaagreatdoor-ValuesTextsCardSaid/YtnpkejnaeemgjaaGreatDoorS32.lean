/-
  The texts that the claim wants, one behind the other: part 32.
-/
import Derived.Test.YtnpkejnaeemgjaaGreatDoorS31
import Derived.Lib.ItoaNum
set_option linter.unusedSimpArgs false
set_option linter.unusedVariables false
namespace Go.Proofs.YtnpkejnaeemgjaaGreatDoor
open Go.RowKit
def dvF (n : Nat) (l : List UInt8) : Nat := l.foldl (fun n c => n * 10 + (c.toNat - 48)) n
theorem dvF_ge (l : List UInt8) : ∀ n, n ≤ dvF n l := by
 induction l with
 | nil => intro n; exact Nat.le_refl _
 | cons c l ih => intro n; have := ih (n * 10 + (c.toNat - 48)); simp only [dvF, List.foldl_cons] at this ⊢; omega
def dgS (s : ByteArray) : List UInt8 := (cutS s ⟨#[45]⟩).data.toList
def numR (neg : Bool) (n : Nat) : V × Int := if neg = true then (if n ≤ 9223372036854775808 then (V.int (-(n : Int)), 0) else (V.null, 9)) else if n < 9223372036854775808 then (V.int n, 0) else (V.null, 9)
theorem parse_all : ∀ (l : List UInt8) (acc : Nat), (∀ c ∈ l, okD c = true) → Lib.parseUint10 acc l = if l = [] ∨ dvF acc l < 18446744073709551616 then .ok (dvF acc l) else .range
 | [], acc, _ => by simp [Lib.parseUint10, dvF]
 | c :: l, acc, h => by
  have hc : okD c = true := h c (by simp)
  simp only [okD, Bool.and_eq_true, decide_eq_true_eq] at hc
  have hge := dvF_ge l (acc * 10 + (c.toNat - 48))
  have e : dvF acc (c :: l) = dvF (acc * 10 + (c.toNat - 48)) l := rfl
  rw [Lib.parseUint10, if_pos hc, e]
  by_cases h1 : 1844674407370955162 ≤ acc
  ·rw [if_pos h1, if_neg]
   simp; omega
  ·rw [if_neg h1]
   by_cases h2 : 18446744073709551616 ≤ acc * 10 + (c.toNat - 48)
   ·rw [if_pos h2, if_neg]
    simp; omega
   ·rw [if_neg h2, parse_all l _ (fun x hx => h x (by simp [hx]))]
    by_cases hl : l = []
    ·subst hl
     rw [if_pos (.inl rfl), if_pos (.inr (by simpa [dvF] using Nat.lt_of_not_le h2))]
    ·simp [hl]
theorem atoi_num {s : ByteArray} (hN : numB s = true) : Lib.atoiAll s.data.toList = (if hasB s ⟨#[45]⟩ = true then (if dvF 0 (dgS s) ≤ 9223372036854775808 then .ok (-(dvF 0 (dgS s) : Int)) else .range) else if dvF 0 (dgS s) < 9223372036854775808 then .ok (dvF 0 (dgS s) : Int) else .range) := by
 simp only [numB, Bool.and_eq_true, decide_eq_true_eq] at hN
 obtain ⟨hA, h1⟩ := hN
 have hall : ∀ c ∈ dgS s, okD c = true := by
  unfold allB at hA
  exact List.all_eq_true.1 hA
 have hne : dgS s ≠ [] := by
  intro e
  have : (dgS s).length = (cutS s ⟨#[45]⟩).size := rfl
  rw [e] at this
  simp at this
  omega
 have hP : Lib.parseMag (dgS s) = if dvF 0 (dgS s) < 18446744073709551616 then .ok (dvF 0 (dgS s)) else .range := by
  rw [Lib.parseMag, if_neg hne, parse_all _ _ hall]
  simp [hne]
 cases hs : s.data.toList with
 | nil =>
  exfalso
  have : s.size = 0 := by have : s.data.toList.length = s.size := rfl
                          rw [hs] at this; exact this.symm
  have := cutS_size s ⟨#[45]⟩
  omega
 | cons c r =>
  have hsz : 1 ≤ s.size := by have : s.data.toList.length = s.size := rfl
                              rw [hs] at this; simp at this; omega
  have h0 : s[0] = c := by have := byte_drop (s := s) (k := 0) hsz; rw [List.drop_zero, hs] at this; injection this with h _; exact h.symm
  have hx : s.extract 0 (ByteArray.mk #[45]).size = ⟨#[s[0]]⟩ := ext_one hsz
  have hB : hasB s ⟨#[45]⟩ = decide (c = 45) := by
   rw [hasB, hx, h0, show (ByteArray.mk #[45]).size = 1 from rfl, decide_eq_true hsz, Bool.true_and]
   by_cases hc : c = 45
   ·subst hc; simp
   ·simp [hc]
  have hd : dgS s = if c = 45 then r else c :: r := by
   rw [dgS, cutS, hB]
   by_cases hc : c = 45
   ·simp only [hc, decide_true, if_true]
    rw [show (ByteArray.mk #[45]).size = 1 from rfl, ext_end, hs]
    rfl
   ·simp only [hc, decide_false, if_false, Bool.false_eq_true]
    exact hs
  rw [hB, Lib.atoiAll]
  have c43 : ¬ c.toNat = 43 := by
   intro e
   have hc : ¬ c = 45 := fun h => by rw [h] at e; exact absurd e (by decide)
   rw [if_neg hc] at hd
   have := hall c (by rw [hd]; simp)
   simp only [okD, e] at this
   exact absurd this (by decide)
  have e45 : c.toNat = 45 ↔ c = 45 := ⟨fun h => UInt8.toNat_inj.1 h, fun h => by rw [h]; rfl⟩
  have hd2 : (if c.toNat = 43 ∨ c.toNat = 45 then r else c :: r) = dgS s := by
   rw [hd]
   by_cases hc : c = 45
   ·rw [if_pos (.inr (e45.2 hc)), if_pos hc]
   ·rw [if_neg (fun h => h.elim c43 fun h => hc (e45.1 h)), if_neg hc]
  rw [hd2, hP]
  generalize dvF 0 (dgS s) = n at *
  by_cases hc : c = 45
  ·have e := e45.2 hc
   simp only [hc, decide_true, if_true]
   by_cases hn : n ≤ 9223372036854775808
   ·rw [if_pos (show n < 18446744073709551616 by omega), if_pos hn]
    have : ¬ 9223372036854775808 < n := by omega
    simp [this]
   ·rw [if_neg hn]
    by_cases hn2 : n < 18446744073709551616
    ·rw [if_pos hn2]
     have : 9223372036854775808 < n := by omega
     simp [this]
    ·rw [if_neg hn2]
  ·have e : ¬ c.toNat = 45 := fun h => hc (e45.1 h)
   simp only [hc, decide_false, Bool.false_eq_true, if_false]
   by_cases hn : n < 9223372036854775808
   ·rw [if_pos (show n < 18446744073709551616 by omega), if_pos hn]
    have : ¬ 9223372036854775808 ≤ n := by omega
    simp [this, e]
   ·rw [if_neg hn]
    by_cases hn2 : n < 18446744073709551616
    ·rw [if_pos hn2]
     have : 9223372036854775808 ≤ n := by omega
     simp [this, e]
    ·rw [if_neg hn2]
theorem scalP_num {s : ByteArray} (nn : ¬ (s = ⟨#[]⟩ ∨ s = ⟨#[126]⟩ ∨ s = wNull)) (nb : ¬ (s = wTrue ∨ s = wFalse)) (hN : numB s = true) : scalP s = numR (hasB s ⟨#[45]⟩) (dvF 0 (dgS s)) := by
 rw [scalP, if_neg nn, if_neg nb, if_neg (by rw [hN]; decide), atoi_num hN, numR]
 by_cases h : hasB s ⟨#[45]⟩ = true
 ·rw [if_pos h, if_pos h]
  by_cases h2 : dvF 0 (dgS s) ≤ 9223372036854775808
  ·rw [if_pos h2, if_pos h2]
  ·rw [if_neg h2, if_neg h2]
 ·rw [if_neg h, if_neg h]
  by_cases h2 : dvF 0 (dgS s) < 9223372036854775808
  ·rw [if_pos h2, if_pos h2]
  ·rw [if_neg h2, if_neg h2]
theorem ba_ext {a b : ByteArray} (h : a.data.toList = b.data.toList) : a = b := by
 cases a; cases b
 congr 1
 exact Array.toList_inj.1 h
theorem head_ne {s t : ByteArray} {c d : UInt8} {l r : List UInt8} (hs : s.data.toList = c :: l) (ht : t.data.toList = d :: r) (h : c ≠ d) : s ≠ t := fun e => by
 rw [e, ht] at hs
 injection hs with h1 _
 exact h h1.symm
theorem hasB_head {s : ByteArray} {c d : UInt8} {l : List UInt8} (h : s.data.toList = c :: l) : hasB s ⟨#[d]⟩ = decide (c = d) := by
 have hsz : 1 ≤ s.size := by have : s.data.toList.length = s.size := rfl
                             rw [h] at this; simp at this; omega
 have h0 : s[0] = c := by have := byte_drop (s := s) (k := 0) hsz; rw [List.drop_zero, h] at this; injection this with h _; exact h.symm
 rw [hasB, show (ByteArray.mk #[d]).size = 1 from rfl, show s.extract 0 1 = ⟨#[s[0]]⟩ from ext_one hsz, h0, decide_eq_true hsz, Bool.true_and]
 by_cases hc : c = d
 ·subst hc; simp
 ·rw [decide_eq_false hc]
  simp [hc]
theorem decD_eq (m : Nat) : Lib.decDigits m = if m < 10 then [UInt8.ofNat (48 + m)] else Lib.decDigits (m / 10) ++ [UInt8.ofNat (48 + m % 10)] := by
 rw [Lib.decDigits]
 split <;> rfl
theorem decD_len : ∀ (k m : Nat), m < 10 ^ (k + 1) → (Lib.decDigits m).length ≤ k + 1 := by
 intro k
 induction k with
 | zero => intro m h; rw [decD_eq, if_pos (by omega)]; simp
 | succ k ih =>
  intro m h
  rw [decD_eq]
  split
  ·simp
  ·have : m / 10 < 10 ^ (k + 1) := by rw [Nat.div_lt_iff_lt_mul (by omega)]; rw [Nat.pow_succ] at h; exact h
   have := ih _ this
   rw [List.length_append, List.length_singleton]
   omega
theorem dig_nat {d : Nat} (h : d < 10) : (UInt8.ofNat (48 + d)).toNat = 48 + d := by
 rw [UInt8.toNat_ofNat']
 omega
theorem decD_facts : ∀ (n m : Nat), m ≤ n → (∀ c ∈ Lib.decDigits m, okD c = true) ∧ dvF 0 (Lib.decDigits m) = m ∧ Lib.decDigits m ≠ [] := by
 intro n
 induction n with
 | zero =>
  intro m h
  obtain rfl : m = 0 := by omega
  rw [decD_eq, if_pos (by omega)]
  exact ⟨by decide, by decide, by simp⟩
 | succ n ih =>
  intro m h
  have hk : m % 10 < 10 := Nat.mod_lt _ (by omega)
  have okd : ∀ d : Nat, d < 10 → okD (UInt8.ofNat (48 + d)) = true := fun d hd => by
   rw [okD, dig_nat hd]; simp; omega
  rw [decD_eq]
  split
  ·rename_i h10
   refine ⟨fun c hc => ?_, ?_, by simp⟩
   ·rw [List.mem_singleton.1 hc]; exact okd m h10
   ·simp only [dvF, List.foldl_cons, List.foldl_nil, dig_nat h10]; omega
  ·rename_i h10
   obtain ⟨h1, h2, _⟩ := ih (m / 10) (by omega)
   refine ⟨fun c hc => ?_, ?_, by simp⟩
   ·rcases List.mem_append.1 hc with hc | hc
    ·exact h1 c hc
    ·rw [List.mem_singleton.1 hc]; exact okd _ hk
   ·rw [dvF, List.foldl_append]
    rw [dvF] at h2
    rw [h2]
    simp only [List.foldl_cons, List.foldl_nil, dig_nat hk]
    omega
def itB (n : Int) : ByteArray := ⟨(Lib.itoa n).toArray⟩
theorem cons_ba (c : UInt8) (s : List UInt8) : (ByteArray.mk #[c] ++ ByteArray.mk s.toArray) = ⟨(c :: s).toArray⟩ := by
 have : ∀ a b : ByteArray, a.data.toList = b.data.toList → a = b := by
  intro a b h
  cases a; cases b
  congr 1
  exact Array.toList_inj.1 h
 refine this _ _ ?_
 rw [ByteArray.data_append, Array.toList_append]
 simp
theorem digitsP_a (n : Nat) (hn : n ≤ 9223372036854775807) : AC Tryz.prog 48 [.int .i64 n] (.str ⟨(Lib.decDigits n).toArray⟩) := by
 refine kE Tryz.func48 a_ref04_Digits_ok a_ref04_Digits_cb fun E hE => ?_
 refine kW ?_
 refine AK.loopI (fun i : Nat × List UInt8 => (frOf [(0, .int .i64 i.1), (3, .str ⟨i.2.toArray⟩), (4, .bool false)], ⟨boxOf [], fun _ => 0⟩)) (fun i => i.1 ≤ 9223372036854775807 ∧ i.2.length ≤ 100 - (Lib.decDigits i.1).length ∧ (Lib.decDigits i.1).length ≤ 20 ∧ Lib.decDigits n = Lib.decDigits i.1 ++ i.2) (fun i => i.1) (n, []) ⟨hn, by simp, decD_len 19 n (by omega), by simp⟩ (Weak.intro ⟨kI, kI, ⟨_, rfl, .of_eq (congrArg AV.bool (by simp))⟩, trivial⟩ trivial rfl rfl) fun ⟨m, s⟩ ⟨hm, hsl, hdl, hd⟩ => ?_
 dsimp only at hm hsl hdl hd
 have t1 : ((m : Int)).tmod 10 = ((m % 10 : Nat) : Int) := rfl
 have t2 : ((m : Int)).tdiv 10 = ((m / 10 : Nat) : Int) := rfl
 have hk : m % 10 < 10 := Nat.mod_lt _ (by omega)
 have w1 : IntKind.i64.wrap (48 + ((m % 10 : Nat) : Int)) = ((48 + m % 10 : Nat) : Int) := by rw [wrap_in (by omega) (by omega)]; omega
 have w2 : IntKind.u8.wrap ((48 + m % 10 : Nat) : Int) = ((48 + m % 10 : Nat) : Int) := IntWalk.u8_in _ (by omega)
 have w3 : IntKind.i64.wrap ((m / 10 : Nat) : Int) = ((m / 10 : Nat) : Int) := wrap_in (by omega) (by omega)
 refine kW ?_
 refine kQ [] ?_
 rw [t1]
 refine kW ?_
 refine kC (fun hb => ?_) fun hb => ?_
 ·exact absurd hb (by simp; omega)
 refine kW ?_
 refine kP [] ?_ ?_
 ·((repeat' apply And.intro) <;> first | exact kD | (intro hgd; refine ⟨?_, kG⟩; (repeat' apply And.intro) <;> first | exact kD | skip) | skip)
  ·rw [w1, w2]; omega
  ·rw [w1, w2]; omega
  ·show ((1 + s.toArray.size : Nat) : Int) ≤ _
   rw [List.size_toArray]
   omega
 rw [w1, w2]
 have hcons : (ByteArray.mk #[((48 + m % 10 : Nat) : Int).toNat.toUInt8] ++ ByteArray.mk s.toArray) = ⟨(UInt8.ofNat (48 + m % 10) :: s).toArray⟩ := cons_ba _ _
 refine kW ?_
 refine kQ [] ?_
 rw [t2, w3]
 refine kW ?_
 refine kC (fun hb => ?_) fun hb => ?_
 ·have h0 : m / 10 = 0 := by have h : ((m / 10 : Nat) : Int) = 0 := by simpa using hb
                             omega
  have hm10 : m < 10 := by omega
  have hdm : Lib.decDigits m = [UInt8.ofNat (48 + m)] := by rw [decD_eq, if_pos hm10]
  rw [hdm] at hd
  have hmm : m % 10 = m := Nat.mod_eq_of_lt hm10
  refine AK.exit rfl ?_
  refine kW ?_
  refine kC (fun hb => ?_) fun hb => ?_
  ·cases hb
  refine kW ?_
  refine AK.ret ⟨_, rfl, ?_⟩
  refine congrArg AV.str (Eq.trans hcons ?_)
  rw [hmm, hd]
  rfl
 ·have h0 : ¬ m / 10 = 0 := by have h : ¬ ((m / 10 : Nat) : Int) = 0 := by simpa using hb
                               omega
  have hm10 : ¬ m < 10 := by omega
  have hdm : Lib.decDigits m = Lib.decDigits (m / 10) ++ [UInt8.ofNat (48 + m % 10)] := by rw [decD_eq, if_neg hm10]
  have hlm := congrArg List.length hdm
  rw [List.length_append, List.length_singleton] at hlm
  refine kW ?_
  exact AK.lp ⟨(m / 10, UInt8.ofNat (48 + m % 10) :: s), ⟨by dsimp only; omega, by dsimp only; rw [List.length_cons]; omega, by dsimp only; omega, by dsimp only; rw [hd, hdm, List.append_assoc]; rfl⟩, Weak.intro ⟨kI, ⟨_, rfl, .of_eq (congrArg AV.str hcons)⟩, kI, trivial⟩ trivial rfl rfl, by dsimp only; omega⟩
theorem digitsN_a (n : Nat) (h1 : 1 ≤ n) (hn : n ≤ 9223372036854775808) : AC Tryz.prog 48 [.int .i64 (-(n : Int))] (.str ⟨(45 :: Lib.decDigits n).toArray⟩) := by
 refine kE Tryz.func48 a_ref04_Digits_ok a_ref04_Digits_cb fun E hE => ?_
 refine kW ?_
 refine AK.loopI (fun i : Nat × List UInt8 => (frOf [(0, .int .i64 (-(i.1 : Int))), (3, .str ⟨i.2.toArray⟩), (4, .bool true)], ⟨boxOf [], fun _ => 0⟩)) (fun i => i.1 ≤ 9223372036854775808 ∧ i.2.length ≤ 100 - (Lib.decDigits i.1).length ∧ (Lib.decDigits i.1).length ≤ 20 ∧ Lib.decDigits n = Lib.decDigits i.1 ++ i.2) (fun i => i.1) (n, []) ⟨hn, by simp, decD_len 19 n (by omega), by simp⟩ (Weak.intro ⟨kI, kI, ⟨_, rfl, .of_eq (congrArg AV.bool (by simp; omega))⟩, trivial⟩ trivial rfl rfl) fun ⟨m, s⟩ ⟨hm, hsl, hdl, hd⟩ => ?_
 dsimp only at hm hsl hdl hd
 have t1 : (-(m : Int)).tmod 10 = -((m % 10 : Nat) : Int) := by rw [Int.neg_tmod]; rfl
 have t2 : (-(m : Int)).tdiv 10 = -((m / 10 : Nat) : Int) := by rw [Int.neg_tdiv]; rfl
 have hk : m % 10 < 10 := Nat.mod_lt _ (by omega)
 have w0 : IntKind.i64.wrap (0 - -((m % 10 : Nat) : Int)) = ((m % 10 : Nat) : Int) := by rw [wrap_in (by omega) (by omega)]; omega
 have w1 : IntKind.i64.wrap (48 + ((m % 10 : Nat) : Int)) = ((48 + m % 10 : Nat) : Int) := by rw [wrap_in (by omega) (by omega)]; omega
 have w2 : IntKind.u8.wrap ((48 + m % 10 : Nat) : Int) = ((48 + m % 10 : Nat) : Int) := IntWalk.u8_in _ (by omega)
 have w3 : IntKind.i64.wrap (-((m / 10 : Nat) : Int)) = -((m / 10 : Nat) : Int) := wrap_in (by omega) (by omega)
 refine kW ?_
 refine kQ [] ?_
 rw [t1]
 refine kW ?_
 refine AK.cond (by rfl) (fun hb => ?_) (fun hb => ?_)
 refine AK.reg fw0 (rs := []) (by rfl) (by (repeat (first | exact trivial | exact rfl | refine ⟨trivial, ?_⟩ | refine ⟨rfl, ?_⟩))) ?_
 rw [w0]
 refine AK.weak (Weak.intro (L := [(0, .int .i64 (-(m : Int))), (3, .str ⟨s.toArray⟩), (4, .bool true), (5, .int .i64 ((m % 10 : Nat) : Int))]) (BL := []) ⟨kI, kI, kI, kI, trivial⟩ trivial rfl rfl) ?_
 rotate_left 1
 have e5 : -((m % 10 : Nat) : Int) = ((m % 10 : Nat) : Int) := by
  have := of_decide_eq_false hb
  omega
 apply AK.skip
 refine AK.weak (Weak.intro (L := [(0, .int .i64 (-(m : Int))), (3, .str ⟨s.toArray⟩), (4, .bool true), (5, .int .i64 ((m % 10 : Nat) : Int))]) (BL := []) ⟨kI, kI, kI, ⟨_, rfl, .of_eq (congrArg (AV.int _) e5)⟩, trivial⟩ trivial rfl rfl) ?_
 clear e5
 all_goals
  clear hb w0 t1
  refine kW ?_
  refine kP [] ?_ ?_
  ·((repeat' apply And.intro) <;> first | exact kD | (intro hgd; refine ⟨?_, kG⟩; (repeat' apply And.intro) <;> first | exact kD | skip) | skip)
   ·rw [w1, w2]; omega
   ·rw [w1, w2]; omega
   ·show ((1 + s.toArray.size : Nat) : Int) ≤ _
    rw [List.size_toArray]
    omega
  rw [w1, w2]
  have hcons : (ByteArray.mk #[((48 + m % 10 : Nat) : Int).toNat.toUInt8] ++ ByteArray.mk s.toArray) = ⟨(UInt8.ofNat (48 + m % 10) :: s).toArray⟩ := cons_ba _ _
  refine kW ?_
  refine kQ [] ?_
  rw [t2, w3]
  refine kW ?_
  refine kC (fun hb => ?_) fun hb => ?_
  ·have h0 : m / 10 = 0 := by have h : -((m / 10 : Nat) : Int) = 0 := by simpa using hb
                              omega
   have hm10 : m < 10 := by omega
   have hdm : Lib.decDigits m = [UInt8.ofNat (48 + m)] := by rw [decD_eq, if_pos hm10]
   rw [hdm] at hd
   have hmm : m % 10 = m := Nat.mod_eq_of_lt hm10
   refine AK.exit rfl ?_
   refine kW ?_
   refine kC (fun hb => ?_) fun hb => ?_
   ·have hcons2 : (ByteArray.mk #[((48 + m % 10 : Nat) : Int).toNat.toUInt8] ++ ByteArray.mk s.toArray).size ≤ 101 := by
     rw [hcons]
     show ((UInt8.ofNat (48 + m % 10) :: s).toArray).size ≤ _
     rw [List.size_toArray, List.length_cons]; omega
    refine kW ?_
    refine kP [] ?_ ?_
    ·((repeat' apply And.intro) <;> first | exact kD | (intro hgd; refine ⟨?_, kG⟩; (repeat' apply And.intro) <;> first | exact kD | skip) | skip)
     have z : (ByteArray.mk #[45]).size = 1 := rfl
     omega
    refine kW ?_
    refine AK.ret ⟨_, rfl, ?_⟩
    refine congrArg AV.str ?_
    rw [hcons, hmm, hd]
    exact cons_ba _ _
   ·cases hb
  ·have h0 : ¬ m / 10 = 0 := by have h : ¬ -((m / 10 : Nat) : Int) = 0 := by simpa using hb
                                omega
   have hm10 : ¬ m < 10 := by omega
   have hdm : Lib.decDigits m = Lib.decDigits (m / 10) ++ [UInt8.ofNat (48 + m % 10)] := by rw [decD_eq, if_neg hm10]
   have hlm := congrArg List.length hdm
   rw [List.length_append, List.length_singleton] at hlm
   refine kW ?_
   exact AK.lp ⟨(m / 10, UInt8.ofNat (48 + m % 10) :: s), ⟨by dsimp only; omega, by dsimp only; rw [List.length_cons]; omega, by dsimp only; omega, by dsimp only; rw [hd, hdm, List.append_assoc]; rfl⟩, Weak.intro ⟨kI, ⟨_, rfl, .of_eq (congrArg AV.str hcons)⟩, kI, trivial⟩ trivial rfl rfl, by dsimp only; omega⟩
theorem digits_a (n : Int) (h1 : -9223372036854775808 ≤ n) (h2 : n ≤ 9223372036854775807) : AC Tryz.prog 48 [.int .i64 n] (.str (itB n)) := by
 by_cases hn : n < 0
 ·have := digitsN_a n.natAbs (by omega) (by omega)
  rw [show -((n.natAbs : Nat) : Int) = n by omega] at this
  rw [itB, Lib.itoa, if_pos hn]
  exact this
 ·have := digitsP_a n.toNat (by omega)
  rw [show ((n.toNat : Nat) : Int) = n by omega] at this
  rw [itB, Lib.itoa, if_neg hn]
  exact this
theorem scal_dig (n : Int) (h1 : -9223372036854775808 ≤ n) (h2 : n ≤ 9223372036854775807) : scalP (itB n) = (V.int n, 0) := by
 obtain ⟨f1, f2, f3⟩ := decD_facts n.natAbs n.natAbs (Nat.le_refl _)
 obtain ⟨d0, ds, hds⟩ : ∃ d0 ds, Lib.decDigits n.natAbs = d0 :: ds := by
  cases h : Lib.decDigits n.natAbs with
  | nil => exact absurd h f3
  | cons a l => exact ⟨a, l, rfl⟩
 have hd0 : okD d0 = true := f1 d0 (by rw [hds]; simp)
 have hd0n : 48 ≤ d0.toNat ∧ d0.toNat ≤ 57 := by simpa [okD] using hd0
 have hlist : (itB n).data.toList = if n < 0 then 45 :: Lib.decDigits n.natAbs else Lib.decDigits n.natAbs := by
  rw [itB, Lib.itoa]
  split
  ·rfl
  ·rename_i hn
   show (Lib.decDigits n.toNat).toArray.toList = _
   rw [show n.toNat = n.natAbs by omega]
 obtain ⟨c, l, hcl, hc⟩ : ∃ c l, (itB n).data.toList = c :: l ∧ (c = 45 ∨ 48 ≤ c.toNat ∧ c.toNat ≤ 57) := by
  rw [hlist]
  split
  ·exact ⟨45, _, rfl, .inl rfl⟩
  ·exact ⟨d0, ds, hds, .inr hd0n⟩
 have ne : ∀ d : UInt8, ¬ (d = 45 ∨ 48 ≤ d.toNat ∧ d.toNat ≤ 57) → c ≠ d := fun d hd e => hd (e ▸ hc)
 have nn : ¬ (itB n = ⟨#[]⟩ ∨ itB n = ⟨#[126]⟩ ∨ itB n = wNull) := by
  rintro (h | h | h)
  ·rw [h] at hcl; cases hcl
  ·exact head_ne hcl (t := ⟨#[126]⟩) rfl (ne 126 (by decide)) h
  ·exact head_ne hcl (t := wNull) rfl (ne 110 (by decide)) h
 have nb : ¬ (itB n = wTrue ∨ itB n = wFalse) := by
  rintro (h | h)
  ·exact head_ne hcl (t := wTrue) rfl (ne 116 (by decide)) h
  ·exact head_ne hcl (t := wFalse) rfl (ne 102 (by decide)) h
 have hB : hasB (itB n) ⟨#[45]⟩ = decide (n < 0) := by
  rw [hasB_head hcl]
  by_cases hn : n < 0
  ·rw [if_pos hn] at hlist
   rw [hlist] at hcl
   injection hcl with e _
   rw [decide_eq_true hn, decide_eq_true e.symm]
  ·rw [if_neg hn, hds] at hlist
   rw [hlist] at hcl
   injection hcl with e _
   rw [decide_eq_false hn, decide_eq_false]
   intro e2
   rw [← e] at e2
   rw [e2] at hd0n
   exact absurd hd0n.1 (by decide)
 have hD : dgS (itB n) = Lib.decDigits n.natAbs := by
  rw [dgS, cutS, hB]
  by_cases hn : n < 0
  ·rw [decide_eq_true hn, if_pos rfl, show (ByteArray.mk #[45]).size = 1 from rfl, ext_end, hlist, if_pos hn]
   rfl
  ·rw [decide_eq_false hn, if_neg (by decide), hlist, if_neg hn]
 have hN : numB (itB n) = true := by
  rw [numB, Bool.and_eq_true]
  refine ⟨?_, ?_⟩
  ·rw [allB]
   exact List.all_eq_true.2 fun c hc => f1 c (by rw [← hD]; exact hc)
  ·have : (dgS (itB n)).length = (cutS (itB n) ⟨#[45]⟩).size := rfl
   rw [hD, hds] at this
   simp at this
   exact decide_eq_true (by omega)
 rw [scalP_num nn nb hN, hB, hD, f2, numR]
 by_cases hn : n < 0
 ·rw [decide_eq_true hn, if_pos rfl, if_pos (by omega), show -((n.natAbs : Nat) : Int) = n by omega]
 ·rw [decide_eq_false hn, if_neg (by decide), if_pos (by omega), show ((n.natAbs : Nat) : Int) = n by omega]
end Go.Proofs.YtnpkejnaeemgjaaGreatDoor
/-
 A value put at a path, a path cut off: plain laws.
-/
namespace Go.Proofs.YtnpkejnaeemgjaaGreatDoor
open Go.RowKit
end Go.Proofs.YtnpkejnaeemgjaaGreatDoor
/-
 Reading plain lines and plain words: laws, no program in sight.
-/
namespace Go.Proofs.YtnpkejnaeemgjaaGreatDoor
open Go.RowKit
theorem ix_append {l r : List UInt8} {c : UInt8} (h : c ∉ l) : Lib.indexByte (l ++ c :: r) c = l.length := by
 induction l with
 | nil => simp [Lib.indexByte]
 | cons a l ih =>
  simp only [List.mem_cons, not_or] at h
  have := ih h.2
  rw [List.cons_append, Lib.indexByte, if_neg (by simpa using Ne.symm h.1), this, if_neg (by simp)]
  simp
theorem ix_none {l : List UInt8} {c : UInt8} (h : c ∉ l) : Lib.indexByte l c = -1 := by
 rcases ix_cases l c with ⟨h1, _⟩ | ⟨i, _, _, h3, _⟩
 ·exact h1
 ·exact absurd (List.mem_of_getElem? h3) h
def joinC (c : UInt8) : List Bs → Bs
 | [] => []
 | x :: l => x ++ l.flatMap fun t => c :: t
theorem joinC_cons (c : UInt8) (t u : Bs) (l : List Bs) : joinC c (t :: u :: l) = t ++ c :: joinC c (u :: l) := by
 rw [joinC, joinC, List.flatMap_cons]; rfl
theorem splB_join (c : UInt8) : ∀ (l : List Bs) (s : ByteArray), l ≠ [] → (∀ t ∈ l, c ∉ t) → s.data.toList = joinC c l → Lib.countB s ⟨#[c]⟩ + 1 = l.length ∧ (Lib.splitB ⟨#[c]⟩ 0 (l.length - 1) s).map (fun x => x.data.toList) = l
 | [], _, h, _, _ => absurd rfl h
 | [t], s, _, hw, hs => by
  have hs' : s.data.toList = t := by rw [hs]; simp [joinC]
  have hi : Lib.indexB s ⟨#[c]⟩ = -1 := by
   show Lib.index s.data.toList [c] = -1
   rw [Lib.index_one, ix_none (by rw [hs']; exact hw t (by simp))]
  exact ⟨by rw [Lib.countB_miss _ _ hi]; rfl, by show [s.data.toList] = _; rw [hs']⟩
 | t :: u :: l, s, _, hw, hs => by
  rw [joinC_cons] at hs
  have ht := hw t (by simp)
  have hi : Lib.indexB s ⟨#[c]⟩ = (t.length : Nat) := by
   show Lib.index s.data.toList [c] = _
   rw [Lib.index_one, hs, ix_append ht]
  have hx : (s.extract (t.length + (ByteArray.mk #[c]).size) s.size).data.toList = joinC c (u :: l) := by
   rw [ext_end]
   show s.data.toList.drop (t.length + 1) = _
   have e : t ++ c :: joinC c (u :: l) = (t ++ [c]) ++ joinC c (u :: l) := by simp
   rw [hs, e, List.drop_append_of_le_length (by simp), List.drop_of_length_le (by simp)]
   rfl
  have h0 : (s.extract 0 (t.length + 0)).data.toList = t := by
   rw [Lib.extract_eq]
   show ((s.data.toList.drop 0).take _) = _
   rw [hs]
   simp
  obtain ⟨c1, c2⟩ := splB_join c (u :: l) (s.extract (t.length + (ByteArray.mk #[c]).size) s.size) (by simp) (fun x hx => hw x (by simp [List.mem_cons.1 hx])) hx
  refine ⟨?_, ?_⟩
  ·rw [Lib.countB_hit _ _ _ (show 1 ≤ (ByteArray.mk #[c]).size from Nat.le_refl 1) hi]
   simp only [List.length_cons] at c1 ⊢
   omega
  ·simp only [List.length_cons, Nat.add_sub_cancel] at c2 ⊢
   rw [Lib.splitB_hit _ _ _ _ _ hi, List.map_cons, h0, c2]
theorem splT_join {c : UInt8} {l : List Bs} {s : ByteArray} (hne : l ≠ []) (hw : ∀ t ∈ l, c ∉ t) (hs : s.data.toList = joinC c l) : (splT c s).map (fun x => x.data.toList) = l := by
 obtain ⟨c1, c2⟩ := splB_join c l s hne hw hs
 rw [splT, show Lib.countB s ⟨#[c]⟩ = l.length - 1 by omega, c2]
def okB (c : UInt8) : Bool := !(c == 35) && !isQ c
theorem tl_of {c : UInt8} {t : Bs} (h : c ≠ 32) : tl (c :: t) = c :: t := by
 unfold tl Lib.trimLeftB
 rw [List.dropWhile_cons, if_neg (by simpa using h)]
theorem tr_of {c : UInt8} {t : Bs} (h : c ≠ 32) : tr (t ++ [c]) = t ++ [c] := by
 unfold tr Lib.trimRightB
 rw [List.reverse_append, List.reverse_singleton, List.singleton_append, List.dropWhile_cons, if_neg (by simpa using h)]
 simp
theorem tl_pad (k : Nat) {c : UInt8} {t : Bs} (h : c ≠ 32) : tl (List.replicate k 32 ++ c :: t) = c :: t := by
 induction k with
 | zero => exact tl_of h
 | succ k ih =>
  rw [List.replicate_succ, List.cons_append]
  unfold tl Lib.trimLeftB at ih ⊢
  rw [List.dropWhile_cons, if_pos (by rfl)]
  exact ih
theorem parseT_one {i : Nat} {s : Bs} {v : V} {e : Int} (h1 : isItem s = false) (h2 : splitL s = none) (h3 : inlineL s = (v, e)) (he : e ≠ 0 → v = V.null) :
  parseT [(i, s)] = if e ≠ 0 then (V.null, e) else if v.checkC ≠ 0 then (V.null, v.checkC) else (v, 0) := by
 have hb : readF ((3 * wAt [(i, s)] + 2) + 1) .block i ⟨[(i, s)], 0, 0⟩ = inlS s ⟨[(i, s)], 1, 0⟩ := by
  have hd : ∀ st : YR, 1 ≤ st.at_ → st.l = [(i, s)] → st.deep i = false := fun st h1 h2 => by
   unfold YR.deep
   rw [h2, List.getElem?_eq_none (by simpa using h1)]
  rw [readF]
  simp only [List.getElem?_cons_zero, h1, h2, Bool.false_eq_true, if_false, Option.isSome_none]
  have hs : (inlS s ⟨[(i, s)], 0 + 1, 0⟩).2.deep i = false := by
   unfold inlS
   rw [h3]
   dsimp only
   split
   ·exact hd _ (Nat.le_refl _) rfl
   ·exact hd _ (Nat.le_refl _) rfl
  rw [hs, if_neg (by simp)]
 unfold parseT
 simp only
 rw [show 3 * wAt [(i, s)] + 3 = (3 * wAt [(i, s)] + 2) + 1 from rfl, hb]
 unfold inlS
 rw [h3]
 by_cases h : e = 0
 ·subst h
  simp
 ·simp [h, YR.fail]
theorem noColon {w : Bs} (h : 58 ∉ w) : Lib.index w [58, 32] = -1 := by
 induction w with
 | nil => rfl
 | cons b l ih =>
  simp only [List.mem_cons, not_or] at h
  rw [Lib.index, ih h.2, if_neg]
  ·rfl
  ·intro hp
   simp only [List.isPrefixOf, Bool.and_eq_true, beq_iff_eq] at hp
   exact h.1 hp.1
theorem no_suff {w : Bs} {c : UInt8} (h : c ∉ w) : Lib.hasSuffix w [c] = false := by
 unfold Lib.hasSuffix
 cases hx : [c].isSuffixOf w with
 | false => rfl
 | true =>
  obtain ⟨t, ht⟩ := List.isSuffixOf_iff_suffix.1 hx
  exact absurd (by rw [← ht]; simp) h
def wB (c : UInt8) : Bool := !oddC c && !(c == 32)
theorem wB_ne {c d : UInt8} (h : wB c = true) (hd : wB d = false) : c ≠ d := fun e => by rw [e, hd] at h; cases h
theorem wB_not {w : Bs} (h : ∀ c ∈ w, wB c = true) {d : UInt8} (hd : wB d = false) : d ∉ w := fun hm => by have := h d hm; rw [hd] at this; cases this
theorem wB_okB {c : UInt8} (h : wB c = true) : okB c = true := by
 have h1 := wB_ne h (d := 35) (by decide)
 have h2 := wB_ne h (d := 34) (by decide)
 have h3 := wB_ne h (d := 39) (by decide)
 simp [okB, isQ, h1, h2, h3]
theorem wB_isQ {c : UInt8} (h : wB c = true) : isQ c = false := by
 have h2 := wB_ne h (d := 34) (by decide)
 have h3 := wB_ne h (d := 39) (by decide)
 simp [isQ, h2, h3]
theorem badWord_of {w : Bs} (hne : w ≠ []) (h : ∀ c ∈ w, wB c = true) : badWord w = false := by
 have h58 := wB_not h (d := 58) (by decide)
 unfold badWord
 rw [noColon h58, no_suff h58]
 cases w with
 | nil => exact absurd rfl hne
 | cons c t =>
  have hc := h c (by simp)
  simp only [wB, Bool.and_eq_true, Bool.not_eq_true'] at hc
  simp [oddL, hc.1]
theorem tr_word {w : Bs} (h : ∀ c ∈ w, wB c = true) : tr w = w := by
 rcases List.eq_nil_or_concat w with rfl | ⟨t, c, e⟩
 ·rfl
 ·rw [List.concat_eq_append] at e
  subst e
  exact tr_of (wB_ne (h c (by simp)) (by decide))
theorem one_word {n : Nat} {ends w r : Bs} (hne : w ≠ []) (h : ∀ c ∈ w, wB c = true) (he : endAt ends (w ++ r) = w.length) : flowF (n + 1) (.one ends) (w ++ r) = ((scalP (toB w)).1, r, (scalP (toB w)).2) := by
 cases w with
 | nil => exact absurd rfl hne
 | cons c t =>
  have hc := h c (by simp)
  rw [oneK_eq, List.cons_append, tl_of (wB_ne hc (by decide)), ← List.cons_append]
  rw [show oneK n ends (c :: t ++ r) = oneK n ends (c :: (t ++ r)) from rfl, oneK, if_neg (wB_ne hc (by decide)), if_neg (wB_ne hc (by decide)), if_neg (by rw [wB_isQ hc]; simp)]
  rw [show c :: (t ++ r) = (c :: t) ++ r from rfl, he, List.take_left' rfl, List.drop_left' rfl, tr_word h, badWord_of hne h, if_neg (by simp)]
end Go.Proofs.YtnpkejnaeemgjaaGreatDoor
/-
 The document's example of layer 5, walked; YamlWrong, walked.
-/
namespace Go.Proofs.YtnpkejnaeemgjaaGreatDoor
open Go.RowKit
end Go.Proofs.YtnpkejnaeemgjaaGreatDoor
