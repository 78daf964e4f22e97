/-
  The texts that the claim wants, one behind the other: part 35.
-/
import Derived.Test.YtgidajjjpeboeaaGreatDoorS34
import Derived.WalkLawsBesides
import Derived.WalkSpells
import Derived.Deep.QuietTactic
import Derived.BigQuiet
set_option linter.unusedSimpArgs false
set_option linter.unusedVariables false
namespace Go.Proofs.YtgidajjjpeboeaaGreatDoor
open Go.RowKit
def OwnOk (k s nm : ByteArray) (p : ByteArray × Nat) : Prop := nameB p.1 = true ∧ 1 ≤ p.2 ∧ p.2 ≤ 1000000 ∧ k = hidB ∧ s = defB ∧ nm = idB p.1 p.2
theorem idB_inj2 {a b : ByteArray} {n m : Nat} (h : idB a n = idB b m) : a = b ∧ n = m := by
 have h1 := congrArg (fun x : ByteArray => x.data.toList) h
 simp only [idB_list] at h1
 obtain ⟨h2, h3⟩ := nameL_inj h1
 refine ⟨?_, h3⟩
 cases a; cases b
 congr 1
 exact Array.toList_inj.1 h2
open Classical in
noncomputable def ownP (k s nm : ByteArray) : Option (ByteArray × Nat) := if h : ∃ p, OwnOk k s nm p then some (Classical.choose h) else none
theorem ownP_some {k s nm : ByteArray} {p : ByteArray × Nat} (h : OwnOk k s nm p) : ownP k s nm = some p := by
 have hx : ∃ p, OwnOk k s nm p := ⟨p, h⟩
 rw [ownP, dif_pos hx]
 have h2 := Classical.choose_spec hx
 obtain ⟨e1, e2⟩ := idB_inj2 (h2.2.2.2.2.2.symm.trans h.2.2.2.2.2)
 exact congrArg some (Prod.ext e1 e2)
theorem ownP_none {k s nm : ByteArray} (h : ∀ p, ¬ OwnOk k s nm p) : ownP k s nm = none := by
 rw [ownP, dif_neg]
 rintro ⟨p, hp⟩
 exact h p hp
theorem ownP_iff {k s nm : ByteArray} {p : ByteArray × Nat} : ownP k s nm = some p ↔ OwnOk k s nm p := by
 constructor
 ·intro h
  by_cases hx : ∃ p, OwnOk k s nm p
  ·obtain ⟨q, hq⟩ := hx
   rw [ownP_some hq] at h
   cases h
   exact hq
  ·rw [ownP, dif_neg hx] at h
   cases h
 ·exact ownP_some
def ownAV : Option (ByteArray × Nat) → AV
 | some p => .tup [.str p.1, .int .i64 p.2, .bool true]
 | none => .tup [.str ⟨#[]⟩, .int .i64 0, .bool false]
def numF (n : Nat) : List UInt8 → Nat
 | [] => n
 | c :: l => if 1000000 < n then n else if c.toNat < 48 ∨ 57 < c.toNat then numF 2000000 l else numF (n * 10 + (c.toNat - 48)) l
theorem numF_big {n : Nat} (h : 1000000 < n) (l : List UInt8) : numF n l = n := by
 cases l with
 | nil => rfl
 | cons c l => rw [numF, if_pos h]
theorem decFrom_le : ∀ {l : List UInt8} {acc v : Nat}, Lib.decFrom acc l = some v → acc ≤ v
 | [], acc, v, h => by
  simp only [Lib.decFrom, Option.some.injEq] at h
  omega
 | c :: l, acc, v, h => by
  rw [Lib.decFrom] at h
  split at h
  ·have := decFrom_le h
   omega
  ·cases h
theorem numF_dec : ∀ {l : List UInt8} {acc v : Nat}, Lib.decFrom acc l = some v → v ≤ 1000000 → numF acc l = v
 | [], acc, v, h, _ => by
  simp only [Lib.decFrom, Option.some.injEq] at h
  exact h
 | c :: l, acc, v, h, hv => by
  have hle := decFrom_le h
  rw [Lib.decFrom] at h
  split at h
  ·rename_i d hd
   unfold Lib.digitVal at hd
   split at hd
   ·rename_i hc
    cases hd
    rw [numF, if_neg (by omega), if_neg (by omega)]
    exact numF_dec h hv
   ·cases hd
  ·cases h
theorem digits_a (n : Nat) (hn : n ≤ 1000000000) : AC Tryz.prog 102 [.int .i64 n] (.str ⟨(Lib.decDigits n).toArray⟩) := by
 refine kE Tryz.func102 a_ref04_Digits_ok a_ref04_Digits_cb fun E hE => ?_
 refine kW ?_
 refine AK.loopI (fun i : Nat × List UInt8 => (frOf [(0, .int .i64 i.1), (3, .str ⟨i.2.toArray⟩), (4, .bool false)], ⟨boxOf [], fun _ => 0⟩)) (fun i => i.1 ≤ 1000000000 ∧ i.2.length ≤ 100 - (Lib.decDigits i.1).length ∧ (Lib.decDigits i.1).length ≤ 10 ∧ Lib.decDigits n = Lib.decDigits i.1 ++ i.2) (fun i => i.1) (n, []) ⟨hn, by simp, dec_len 9 n (by omega), by simp⟩ (Weak.intro ⟨kI, kI, ⟨_, rfl, .of_eq (congrArg AV.bool (by simp))⟩, trivial⟩ trivial rfl rfl) fun ⟨m, s⟩ ⟨hm, hsl, hdl, hd⟩ => ?_
 dsimp only at hm hsl hdl hd
 have t1 : ((m : Int)).tmod 10 = ((m % 10 : Nat) : Int) := rfl
 have t2 : ((m : Int)).tdiv 10 = ((m / 10 : Nat) : Int) := rfl
 have hk : m % 10 < 10 := Nat.mod_lt _ (by omega)
 have w1 : IntKind.i64.wrap (48 + ((m % 10 : Nat) : Int)) = ((48 + m % 10 : Nat) : Int) := by rw [wrap_in (by omega) (by omega)]; omega
 have w2 : IntKind.u8.wrap ((48 + m % 10 : Nat) : Int) = ((48 + m % 10 : Nat) : Int) := IntWalk.u8_in _ (by omega)
 have w3 : IntKind.i64.wrap ((m / 10 : Nat) : Int) = ((m / 10 : Nat) : Int) := wrap_in (by omega) (by omega)
 refine kW ?_
 refine kQ [] ?_
 rw [t1]
 refine kW ?_
 refine kC (fun hb => ?_) fun hb => ?_
 ·exact absurd hb (by simp; omega)
 refine kW ?_
 refine kP [] ?_ ?_
 ·((repeat' apply And.intro) <;> first | exact kD | (intro hgd; refine ⟨?_, kG⟩; (repeat' apply And.intro) <;> first | exact kD | skip) | skip)
  ·rw [w1, w2]; omega
  ·rw [w1, w2]; omega
  ·show ((1 + s.toArray.size : Nat) : Int) ≤ _
   rw [List.size_toArray]
   omega
 rw [w1, w2]
 have hx : ((48 + m % 10 : Nat) : Int).toNat.toUInt8 = UInt8.ofNat (48 + m % 10) := rfl
 have hcons : (ByteArray.mk #[((48 + m % 10 : Nat) : Int).toNat.toUInt8] ++ ByteArray.mk s.toArray) = ⟨(UInt8.ofNat (48 + m % 10) :: s).toArray⟩ := by
  have : ∀ a b : ByteArray, a.data.toList = b.data.toList → a = b := by
   intro a b h
   cases a; cases b
   congr 1
   exact Array.toList_inj.1 h
  refine this _ _ ?_
  rw [ByteArray.data_append, Array.toList_append, hx]
  simp
 refine kW ?_
 refine kQ [] ?_
 rw [t2, w3]
 refine kW ?_
 refine kC (fun hb => ?_) fun hb => ?_
 ·have h0 : m / 10 = 0 := by have h : ((m / 10 : Nat) : Int) = 0 := by simpa using hb
                             omega
  have hm10 : m < 10 := by omega
  have hdm : Lib.decDigits m = [UInt8.ofNat (48 + m)] := by rw [Lib.decDigits, dif_pos hm10]
  rw [hdm] at hd
  have hmm : m % 10 = m := Nat.mod_eq_of_lt hm10
  refine AK.exit rfl ?_
  refine kW ?_
  refine kC (fun hb => ?_) fun hb => ?_
  ·cases hb
  refine kW ?_
  refine AK.ret ⟨_, rfl, ?_⟩
  refine congrArg AV.str (Eq.trans hcons ?_)
  rw [hmm, hd]
  rfl
 ·have h0 : ¬ m / 10 = 0 := by have h : ¬ ((m / 10 : Nat) : Int) = 0 := by simpa using hb
                               omega
  have hm10 : ¬ m < 10 := by omega
  have hdm : Lib.decDigits m = Lib.decDigits (m / 10) ++ [UInt8.ofNat (48 + m % 10)] := by rw [Lib.decDigits, dif_neg hm10]
  have hlm := congrArg List.length hdm
  rw [List.length_append, List.length_singleton] at hlm
  refine kW ?_
  exact AK.lp ⟨(m / 10, UInt8.ofNat (48 + m % 10) :: s), ⟨by dsimp only; omega, by dsimp only; rw [List.length_cons]; omega, by dsimp only; omega, by dsimp only; rw [hd, hdm, List.append_assoc]; rfl⟩, Weak.intro ⟨kI, ⟨_, rfl, .of_eq (congrArg AV.str hcons)⟩, kI, trivial⟩ trivial rfl rfl, by dsimp only; omega⟩
end Go.Proofs.YtgidajjjpeboeaaGreatDoor
/-
 The document's Owner, walked.
-/
namespace Go.Proofs.YtgidajjjpeboeaaGreatDoor
open Go.RowKit
theorem refID_a (a : ByteArray) (n : Nat) (ha : a.size ≤ 140737488355328) (hn : n ≤ 1000000000) : AC Tryz.prog 61 [.str a, .int .i64 n] (.agg [.str hidB, .str defB, .str (idB a n)]) := by
 have h1 := digits_a n (by omega)
 have hd := dec_len 9 n (by omega)
 have hz : (ByteArray.mk (Lib.decDigits n).toArray).size = (Lib.decDigits n).length := by simp [ByteArray.size]
 have h2 : (a ++ ByteArray.mk #[46, 118]).size = a.size + 2 := by rw [ByteArray.size_append]; rfl
 refine kE Tryz.func61 a_ref17_ID_ok a_ref17_ID_cb fun E hE => ?_
 refine kW ?_
 refine kP [.v (.str ⟨(Lib.decDigits n).toArray⟩)] ?_ ?_
 ·((repeat' apply And.intro) <;> first | exact kD | (intro hgd; refine ⟨?_, kG⟩; (repeat' apply And.intro) <;> first | exact kD | skip) | skip)
  all_goals (first | (show ((a.size + 2 : Nat) : Int) ≤ _; omega) | omega)
 refine kW ?_
 refine AK.ret ⟨_, rfl, ?_⟩
 rfl
theorem sdrop_at (s : ByteArray) {k : Nat} (h : k < s.size) : s.data.toList.drop k = s[k] :: s.data.toList.drop (k + 1) := by
 have hk : k < s.data.toList.length := by simpa using h
 rw [List.drop_eq_getElem_cons hk]
 rfl
theorem idB_drop (b : ByteArray) (m : Nat) : (idB b m).data.toList.drop (b.size + 2) = Lib.decDigits m := by
 have e : nameL b.data.toList m = (b.data.toList ++ [46, 118]) ++ Lib.decDigits m := rfl
 have e2 : (b.data.toList ++ [46, 118]).length = b.size + 2 := by simp
 rw [idB_list, e, ← e2, List.drop_left]
theorem eqCells_id {a b c d e f : ByteArray} : eqCells [.str a, .str b, .str c] [.str d, .str e, .str f] = true ↔ a = d ∧ b = e ∧ c = f := by
 simp [eqCells]
theorem refOwner_a (k s nm : ByteArray) (hz : nm.size ≤ 1000000) : AC Tryz.prog 24 [.agg [.str k, .str s, .str nm]] (ownAV (ownP k s nm)) := by
 refine kE Tryz.func24 a_ref17_Owner_ok a_ref17_Owner_cb fun E hE => ?_
 have hw0 : IntKind.i64.wrap ((nm.size : Int) - 1) = (nm.size : Int) - 1 := wrap_in (by omega) (by omega)
 refine kW ?_
 refine AK.loopI (fun i : Nat => (frOf [(1, .ptr 1 0), (2, .str ⟨#[]⟩), (3, .int .i64 0), (4, .bool false), (5, .int .i64 ((i : Int) - 1))], ⟨boxOf [(1, [.str k, .str s, .str nm], false)], fun _ => 0⟩)) (fun i => i ≤ nm.size ∧ ∀ p, OwnOk k s nm p → p.1.size + 2 < i) (fun i => i) nm.size ⟨Nat.le_refl _, fun p hp => ?_⟩ (Weak.intro ⟨kI, kI, kI, kI, ⟨_, rfl, .of_eq (congrArg _ hw0)⟩, trivial⟩ ⟨kJ, trivial⟩ rfl rfl) fun i ⟨hi, hno⟩ => ?_
 ·rw [hp.2.2.2.2.2, idB_size]
  have := List.length_pos_iff.2 (dec_ne p.2)
  omega
 refine kW ?_
 refine kC (fun hb => ?_) fun hb => ?_
 ·have hi1 : 1 ≤ i := by have h : (0 : Int) ≤ (i : Int) - 1 := by simpa using hb
                         omega
  obtain ⟨i, rfl⟩ : ∃ j, i = j + 1 := ⟨i - 1, by omega⟩
  have e1 : (((i + 1 : Nat) : Int) - 1) = (i : Int) := by omega
  rw [e1]
  refine kW ?_
  refine AK.loopI (fun x : Nat × Nat => (frOf [(1, .ptr 1 0), (2, .str ⟨#[]⟩), (3, .int .i64 0), (4, .bool false), (5, .int .i64 i), (6, .int .i64 x.2), (7, .int .i64 x.1)], ⟨boxOf [(1, [.str k, .str s, .str nm], false)], fun _ => 0⟩)) (fun x => x.1 ≤ nm.size ∧ x.2 ≤ 10000009 ∧ numF 0 (nm.data.toList.drop i) = numF x.2 (nm.data.toList.drop x.1)) (fun x => nm.size - x.1) (i, 0) ⟨by omega, by omega, rfl⟩ (Weak.intro ⟨kI, kI, kI, kI, kI, kI, kI, trivial⟩ ⟨kJ, trivial⟩ rfl rfl) fun ⟨j, n⟩ ⟨hj, hn, hN⟩ => ?_
  dsimp only at hj hn hN
  refine kW ?_
  refine kQ [] ?_
  refine kC (fun hb => ?_) fun hb => ?_
  ·have hb2 : j < nm.size ∧ n ≤ 1000000 := by
    simp only [Bool.and_eq_true, decide_eq_true_eq] at hb
    exact ⟨by omega, by omega⟩
   obtain ⟨hjl, hnl⟩ := hb2
   have hcb : nm[j].toNat < 256 := nm[j].toNat_lt
   have hstep : numF n (nm.data.toList.drop j) = if nm[j].toNat < 48 ∨ 57 < nm[j].toNat then numF 2000000 (nm.data.toList.drop (j + 1)) else numF (n * 10 + (nm[j].toNat - 48)) (nm.data.toList.drop (j + 1)) := by
    rw [sdrop_at nm hjl, numF, if_neg (by omega)]
   refine kW ?_
   refine kQ [] ?_
   rw [show nm.data.getD (j : Int).toNat 0 = nm[j] from byte_at hjl]
   refine kW ?_
   refine kC (fun hb => ?_) fun hb => ?_
   ·have hc : nm[j].toNat < 48 ∨ 57 < nm[j].toNat := by
     simp only [Bool.or_eq_true, decide_eq_true_eq] at hb
     omega
    rw [if_pos hc] at hstep
    refine kW ?_
    exact AK.lp ⟨(j + 1, 2000000), ⟨by dsimp only; omega, by dsimp only; omega, by dsimp only; rw [hN, hstep]⟩, Weak.intro ⟨kI, kI, kI, kI, kI, kI, kU, trivial⟩ ⟨kJ, trivial⟩ rfl rfl, by dsimp only; omega⟩
   ·have hc : ¬ (nm[j].toNat < 48 ∨ 57 < nm[j].toNat) := by
     simp only [Bool.or_eq_false_iff, decide_eq_false_iff_not] at hb
     omega
    rw [if_neg hc] at hstep
    have v1 : IntKind.u8.wrap ((nm[j].toNat : Int) - 48) = ((nm[j].toNat - 48 : Nat) : Int) := by rw [IntWalk.u8_in _ (by omega)]; omega
    have v2 : IntKind.i64.wrap ((nm[j].toNat - 48 : Nat) : Int) = ((nm[j].toNat - 48 : Nat) : Int) := wrap_in (by omega) (by omega)
    have v3 : IntKind.i64.wrap ((n : Int) * 10) = ((n * 10 : Nat) : Int) := by rw [wrap_in (by omega) (by omega)]; omega
    have v4 : IntKind.i64.wrap (((n * 10 : Nat) : Int) + ((nm[j].toNat - 48 : Nat) : Int)) = ((n * 10 + (nm[j].toNat - 48) : Nat) : Int) := by rw [wrap_in (by omega) (by omega)]; omega
    refine kW ?_
    refine kQ [] ?_
    rw [show nm.data.getD (j : Int).toNat 0 = nm[j] from byte_at hjl, v1, v2, v3, v4]
    refine kW ?_
    exact AK.lp ⟨(j + 1, n * 10 + (nm[j].toNat - 48)), ⟨by dsimp only; omega, by dsimp only; omega, by dsimp only; rw [hN, hstep]⟩, Weak.intro ⟨kI, kI, kI, kI, kI, kI, kU, trivial⟩ ⟨kJ, trivial⟩ rfl rfl, by dsimp only; omega⟩
  ·have hN2 : numF 0 (nm.data.toList.drop i) = n := by
    rw [hN]
    by_cases hjl : j < nm.size
    ·have : ¬ (n : Int) ≤ 1000000 := by
      intro h
      have h2 : (j : Int) < (nm.size : Int) := by omega
      simp [h, h2] at hb
     exact numF_big (by omega) _
    ·have e : nm.data.toList.drop j = [] := List.drop_eq_nil_of_le (by simp; omega)
     rw [e]; rfl
   refine AK.exit rfl ?_
   have hx2 : (IntKind.i64.wrap ((i : Int) - 2)).toNat = i - 2 := by rw [wrap_in (by omega) (by omega)]; omega
   have hx : nm.extract (0 : Int).toNat (IntKind.i64.wrap ((i : Int) - 2)).toNat = nm.extract 0 (i - 2) := by rw [hx2]; rfl
   have hwi : 2 ≤ i → IntKind.i64.wrap ((i : Int) - 2) = ((i - 2 : Nat) : Int) := fun h => by rw [wrap_in (by omega) (by omega)]; omega
   have hNa := refName_a (nm.extract 0 (i - 2)) (by rw [Lib.extract_eq]; show ((nm.data.toList.drop 0).take (i - 2 - 0)).toArray.size ≤ _; simp; omega)
   have hID := refID_a (nm.extract 0 (i - 2)) n (by rw [Lib.extract_eq]; show ((nm.data.toList.drop 0).take (i - 2 - 0)).toArray.size ≤ _; simp; omega) (by omega)
   refine kW ?_
   refine kP [.v (.bool (nameB (nm.extract 0 (i - 2)))), .v (.agg [.str hidB, .str defB, .str (idB (nm.extract 0 (i - 2)) n)])] ?_ ?_
   ·((repeat' apply And.intro) <;> first | exact kD | (intro hgd; refine ⟨?_, kG⟩; (repeat' apply And.intro) <;> first | exact kD | skip) | skip)
    ·have h2 : 2 ≤ i := by simp [gd] at hgd; omega
     rw [hwi h2]; omega
    ·rw [hx]; exact hNa
    ·have h2 : 2 ≤ i := by simp [gd] at hgd; omega
     rw [hwi h2]; omega
    ·rw [hx]; exact hID
    ·exact eqID_any false _ _ _ _ _ _
   have hloop : ∀ p, OwnOk k s nm p → ((((decide ((i : Int) ≥ 2) && decide ((n : Int) ≥ 1)) && decide ((n : Int) ≤ 1000000)) && nameB (nm.extract 0 (i - 2))) && eqCells [.str hidB, .str defB, .str (idB (nm.extract 0 (i - 2)) n)] [.str k, .str s, .str nm]) = false → p.1.size + 2 < i := by
    intro p hp hf
    have h1 := hno p hp
    rcases Nat.lt_or_ge (p.1.size + 2) i with h2 | h2
    ·exact h2
    ·exfalso
     have hi2 : i = p.1.size + 2 := by omega
     obtain ⟨q1, q2, q3, q4, q5, q6⟩ := hp
     have hn2 : n = p.2 := by
      rw [← hN2, hi2, q6, idB_drop]
      exact numF_dec (decFrom_dec p.2) q3
     have ha : nm.extract 0 (i - 2) = p.1 := by
      rw [hi2, Nat.add_sub_cancel, q6]
      exact idB_front p.1 p.2
     rw [ha, hn2, q1, eqCells_id.2 ⟨q4.symm, q5.symm, q6.symm⟩, decide_eq_true (show ((i : Int) ≥ 2) by omega), decide_eq_true (show ((p.2 : Int) ≥ 1) by omega), decide_eq_true (show ((p.2 : Int) ≤ 1000000) by omega)] at hf
     cases hf
   refine kC (fun hb => ?_) fun hb => ?_
   ·have hb3 := hb
    simp only [Bool.and_eq_true, decide_eq_true_eq] at hb3
    obtain ⟨⟨⟨⟨b1, b2⟩, b3⟩, b4⟩, b5⟩ := hb3
    obtain ⟨c1, c2, c3⟩ := eqCells_id.1 b5
    have hown : ownP k s nm = some (nm.extract 0 (i - 2), n) := ownP_some ⟨b4, by omega, by omega, c1.symm, c2.symm, c3.symm⟩
    rw [hown]
    refine kW ?_
    refine kP [] ?_ ?_
    ·((repeat' apply And.intro) <;> first | exact kD | (intro hgd; refine ⟨?_, kG⟩; (repeat' apply And.intro) <;> first | exact kD | skip) | skip)
     all_goals (rw [hwi (by omega)]; omega)
    rw [hx]
    refine kW ?_
    refine AK.ret ⟨_, rfl, ?_⟩
    rfl
   ·refine kW ?_
    exact AK.lp ⟨i, ⟨by omega, fun p hp => hloop p hp hb⟩, Weak.intro ⟨kI, kI, kI, kI, ⟨_, rfl, .of_eq (congrArg _ (wrap_in (by omega) (by omega)))⟩, trivial⟩ ⟨kJ, trivial⟩ rfl rfl, by omega⟩
 ·have hi0 : i = 0 := by have h : ¬ (0 : Int) ≤ (i : Int) - 1 := by simpa using hb
                         omega
  subst hi0
  have hown : ownP k s nm = none := ownP_none fun p hp => by have := hno p hp; omega
  rw [hown]
  refine AK.exit rfl ?_
  refine kW ?_
  refine AK.ret ⟨_, rfl, ?_⟩
  rfl
end Go.Proofs.YtgidajjjpeboeaaGreatDoor
/-
 record.Owner of any ID, walked.
-/
namespace Go.Proofs.YtgidajjjpeboeaaGreatDoor
open Go.RowKit
theorem last_bound {l : List UInt8} {i : Nat} (h : Lib.lastIndex l [46, 118] = i) : i + 2 ≤ l.length := by
 unfold Lib.lastIndex at h
 split at h
 ·rename_i hl
  rcases Lib.lastOcc_spec l [46, 118] (l.length - ([46, 118] : List UInt8).length + 1) with ⟨e, _⟩ | ⟨j, hj, e, _, _⟩
  ·rw [e] at h; omega
  ·rw [e] at h
   have : j = i := by omega
   simp at hl hj
   omega
 ·omega
theorem lastG_a (nm : ByteArray) (hz : nm.size ≤ 1000000) : AC Tryz.prog 55 [.str nm, .str ⟨#[46, 118]⟩] (.int .i64 (Lib.lastIndex nm.data.toList [46, 118])) := by
 refine ⟨by kernel_rfl, fun σ w vs hh hr hg => ?_⟩
 have hl : vs.length = 2 := hr.1
 obtain ⟨v1, v2, rfl⟩ : ∃ a b, vs = [a, b] := by
  rcases vs with _ | ⟨a, _ | ⟨b, _ | ⟨d, l⟩⟩⟩ <;> simp at hl
  exact ⟨a, b, rfl⟩
 have h1 : Rel1 σ v1 (.str nm) := hr.2 0 v1 _ rfl rfl
 have h2 : Rel1 σ v2 (.str ⟨#[46, 118]⟩) := hr.2 1 v2 _ rfl rfl
 cases h1; cases h2
 refine (Tryz.strings_LastIndex nm ⟨#[46, 118]⟩ (by omega) w).mono ?_
 rintro e w' ⟨rfl, rfl⟩
 exact ⟨σ, _, rfl, Ext.refl _ _, hh, Below.refl _ _, .int _ _⟩
theorem atoiOk_a (s : ByteArray) (v : Int) (hz : s.size ≤ 1000000) (h : Lib.atoiAll s.data.toList = .ok v) : AC Tryz.prog 56 [.str s] (.tup [.int .i64 v, .raw .nilIface]) := by
 refine ⟨by kernel_rfl, fun σ w vs hh hr hg => ?_⟩
 have hl : vs.length = 1 := hr.1
 obtain ⟨v1, rfl⟩ := List.length_eq_one_iff.1 hl
 have h1 : Rel1 σ v1 (.str s) := hr.2 0 v1 _ rfl rfl
 cases h1
 refine (Tryz.strconv_Atoi_ok s (by omega) v h w).mono ?_
 rintro e w' ⟨rfl, hw⟩
 have hb : Below w.heap.size w w' := by
  rcases hw with rfl | ⟨t, rfl⟩
  ·exact Below.refl _ _
  ·exact below_bytes w 5 t
 refine ⟨σ, _, rfl, Ext.refl _ _, hh.on hb, hb, ⟨[.int .i64 v, .nilIface], rfl, rfl, fun j v a hv ha => ?_⟩⟩
 rcases j with _ | _ | j <;> simp at hv ha
 ·subst hv ha; exact .int _ _
 ·subst hv ha; exact .raw _ rfl
theorem ext_le (s : ByteArray) (a b : Nat) : (s.extract a b).size ≤ s.size := by
 rw [Lib.extract_eq]
 show ((s.data.toList.drop a).take (b - a)).toArray.size ≤ _
 simp
 omega
theorem ownerNo_a (k s nm : ByteArray) (hz : nm.size ≤ 1000000) (hno : ownP k s nm = none) (hok : ∀ i : Nat, Lib.lastIndex nm.data.toList [46, 118] = i → ∃ v, Lib.atoiAll (nm.extract (i + 2) nm.size).data.toList = .ok v ∧ -9223372036854775808 ≤ v ∧ v ≤ 9223372036854775807) :
  AC Tryz.prog 21 [.agg [.str k, .str s, .str nm]] (ownAV none) := by
 have hL := lastG_a nm hz
 refine kE Tryz.func21 a_record_Owner_ok a_record_Owner_cb fun E hE => ?_
 refine kW ?_
 refine kQ [.v (.int .i64 (Lib.lastIndex nm.data.toList [46, 118]))] ?_
 by_cases hi : Lib.lastIndex nm.data.toList [46, 118] < 0
 ·generalize Lib.lastIndex nm.data.toList [46, 118] = i0 at *
  refine kW ?_
  refine kC (fun hb => ?_) fun hb => ?_
  ·refine kW ?_
   refine AK.ret ⟨_, rfl, ?_⟩
   rfl
  ·exact absurd hb (by simp; omega)
 ·obtain ⟨i, hI⟩ : ∃ i : Nat, Lib.lastIndex nm.data.toList [46, 118] = i := ⟨(Lib.lastIndex nm.data.toList [46, 118]).toNat, by omega⟩
  obtain ⟨v, hv, v1, v2⟩ := hok i hI
  have hib := last_bound hI
  have hib2 : i + 2 ≤ nm.size := by simpa using hib
  rw [hI]
  clear hI hi hL
  have hw : IntKind.i64.wrap ((i : Int) + 2) = ((i + 2 : Nat) : Int) := by rw [wrap_in (by omega) (by omega)]; omega
  have hA := atoiOk_a (nm.extract (i + 2) nm.size) v (Nat.le_trans (ext_le _ _ _) hz) hv
  have hx : nm.extract (IntKind.i64.wrap ((i : Int) + 2)).toNat (nm.size : Int).toNat = nm.extract (i + 2) nm.size := by rw [hw]; rfl
  have hx0 : nm.extract (0 : Int).toNat (i : Int).toNat = nm.extract 0 i := rfl
  have hNa := recName_a (nm.extract 0 i) (by have := ext_le nm 0 i; omega)
  have hID : v = (v.toNat : Int) → v ≤ 1000000 → AC Tryz.prog 58 [.str (nm.extract 0 i), .int .i64 v] (.agg [.str hidB, .str defB, .str (idB (nm.extract 0 i) v.toNat)]) := fun h1 h2 => by
   have := id_a (nm.extract 0 i) v.toNat (by have := ext_le nm 0 i; omega) (by omega)
   rw [h1]; exact this
  refine kW ?_
  refine kC (fun hb => ?_) fun hb => ?_
  ·exact absurd hb (by simp)
  refine kW ?_
  refine kP [.v (.tup [.int .i64 v, .raw .nilIface])] ?_ ?_
  ·((repeat' apply And.intro) <;> first | exact kD | (intro hgd; refine ⟨?_, kG⟩; (repeat' apply And.intro) <;> first | exact kD | skip) | skip)
   all_goals first | (rw [hx]; exact hA) | (rw [hw]; omega) | skip
  refine kW ?_
  refine kQ [] ?_
  rw [hx0]
  refine kW ?_
  refine kP [.v (.bool (nameB (nm.extract 0 i))), .v (.agg [.str hidB, .str defB, .str (idB (nm.extract 0 i) v.toNat)])] ?_ ?_
  ·((repeat' apply And.intro) <;> first | exact kD | (intro hgd; refine ⟨?_, kG⟩; (repeat' apply And.intro) <;> first | exact kD | skip) | skip)
   ·exact nilErr true
   ·have hg2 : (1 ≤ v ∧ v ≤ 1000000) := by simp [gd] at hgd; omega
    exact hID (by omega) hg2.2
   ·exact eqID_any true _ _ _ _ _ _
  refine kC (fun hb => ?_) fun hb => ?_
  ·refine kW ?_
   refine AK.ret ⟨_, rfl, ?_⟩
   rfl
  ·exfalso
   simp only [Bool.or_eq_false_iff, decide_eq_false_iff_not, Bool.not_eq_false'] at hb
   obtain ⟨⟨⟨⟨_, b1⟩, b2⟩, b3⟩, b4⟩ := hb
   obtain ⟨c1, c2, c3⟩ := eqCells_id.1 b4
   have := ownP_some (k := k) (s := s) (nm := nm) (p := (nm.extract 0 i, v.toNat)) ⟨b3, by dsimp only; omega, by dsimp only; omega, c1.symm, c2.symm, c3.symm⟩
   rw [hno] at this
   cases this
set_option maxHeartbeats 2000000 in
theorem ownerErr_any (k s nm : ByteArray) (w : World) (i : Nat) (hz : nm.size ≤ 1000000) (hI : Lib.lastIndex nm.data.toList [46, 118] = i) (n : Int) (hA : ∀ w : World, GW w → Calls Tryz.prog 56 #[.string (nm.extract (i + 2) nm.size)] w fun e w' => ∃ t p, e = .returned (.tuple #[.int .i64 n, .iface t (.pointer (some p))]) ∧ Below w.heap.size w w') (hg : GW w) :
  Calls Tryz.prog 21 #[.agg #[.string k, .string s, .string nm]] w fun e w' => e = .returned (.tuple #[.string ⟨#[]⟩, .int .i64 0, .bool false]) ∧ Below w.heap.size w w' := by
 have hib := last_bound hI
 have hib2 : i + 2 ≤ nm.size := by simpa using hib
 go_enter Tryz.func21, Tryz.ntmps21
 go_wp2_with fail
 refine (Tryz.strings_LastIndex nm ⟨#[46, 118]⟩ (by omega) _).mono ?_
 rintro e w1 ⟨rfl, rfl⟩
 rw [show (ByteArray.mk #[46, 118]).data.toList = [46, 118] from rfl, hI]
 go_wp2_with fail
 refine (hA _ (hg.below ((Below.refl _ _).alloc (Nat.le_refl _) _))).mono ?_
 rintro e w2 ⟨t, p, rfl, hb⟩
 have hB : Below w.heap.size w w2 := ((Below.refl _ _).alloc (Nat.le_refl _) _).trans (hb.mono (by simp))
 have k2 : w2.cell? ⟨w.heap.size, 2, none⟩ = some (.string nm) := by
  rw [bcell hb w.heap.size 2 (by simp), World.cell?_alloc_at _ _ _ _ rfl]; rfl
 have hz2 : w.heap.size < w2.heap.size := by have := hb.size; simp at this; omega
 have HB := Lib.hid hB
 clear hb hB hA hg
 have q1 : ∀ w : World, (binOp .neq 107 (.iface t (.pointer (some p))) .nilIface).run Tryz.prog w = .ok (.bool true) w := fun w => by simp [go_sem]
 go_wp2
 go_quiet (fail)
 go_wp2
 go_ret3
 exact ⟨rfl, below_drewN HB.out _⟩
theorem atoiAll_range {l : List UInt8} {v : Int} (h : Lib.atoiAll l = .ok v) : -9223372036854775808 ≤ v ∧ v ≤ 9223372036854775807 := by
 unfold Lib.atoiAll at h
 cases l with
 | nil => cases h
 | cons c r =>
  simp only at h
  split at h
  ·cases h
  ·cases h
  ·rename_i u hu
   split at h
   ·cases h
   ·rename_i h1
    split at h
    ·cases h
    ·rename_i h2
     have h3 : (if c.toNat = 45 then -(u : Int) else (u : Int)) = v := by
      injection h
     split at h3 <;> rename_i hc
     ·have : ¬ 9223372036854775808 < u := fun h => h2 ⟨hc, h⟩
      omega
     ·have : ¬ 9223372036854775808 ≤ u := fun h => h1 ⟨hc, h⟩
      omega
theorem owner_any (k s nm : ByteArray) (hz : nm.size ≤ 1000000) : AC Tryz.prog 21 [.agg [.str k, .str s, .str nm]] (ownAV (ownP k s nm)) := by
 cases ho : ownP k s nm with
 | some p =>
  obtain ⟨q1, q2, q3, rfl, rfl, rfl⟩ := ownP_iff.1 ho
  exact owner_a p.1 p.2 q1 q2 q3
 | none =>
  by_cases hok : ∀ i : Nat, Lib.lastIndex nm.data.toList [46, 118] = i → ∃ v, Lib.atoiAll (nm.extract (i + 2) nm.size).data.toList = .ok v ∧ -9223372036854775808 ≤ v ∧ v ≤ 9223372036854775807
  ·exact ownerNo_a k s nm hz ho hok
  ·simp only [Classical.not_forall, not_exists] at hok
   obtain ⟨i, hI, hbad⟩ := hok
   have hex := Nat.le_trans (ext_le nm (i + 2) nm.size) hz
   have hA : ∃ n : Int, ∀ w : World, GW w → Calls Tryz.prog 56 #[.string (nm.extract (i + 2) nm.size)] w fun e w' => ∃ t p, e = .returned (.tuple #[.int .i64 n, .iface t (.pointer (some p))]) ∧ Below w.heap.size w w' := by
    cases hA : Lib.atoiAll (nm.extract (i + 2) nm.size).data.toList with
    | ok v => exact absurd ⟨hA, atoiAll_range hA⟩ (hbad v)
    | range =>
     refine ⟨Lib.atoiSat (nm.extract (i + 2) nm.size).data.toList, fun w hg => ?_⟩
     obtain ⟨ev, h1, h2⟩ := hg.ifc_cell (g := gi_ErrRange) (by simp [globI])
     refine (Tryz.strconv_Atoi_range _ (by omega) hA ev w h1 h2).mono ?_
     rintro e w' ⟨N, rfl, _, _, hb⟩
     exact ⟨_, _, rfl, hb⟩
    | _ =>
     refine ⟨0, fun w hg => ?_⟩
     obtain ⟨ev, h1, h2⟩ := hg.ifc_cell (g := gi_ErrSyntax) (by simp [globI])
     refine (Tryz.strconv_Atoi_syntax _ (by omega) hA ev w h1 h2).mono ?_
     rintro e w' ⟨N, rfl, _, _, hb⟩
     exact ⟨_, _, rfl, hb⟩
   obtain ⟨n, hA⟩ := hA
   refine ⟨by kernel_rfl, fun σ w vs hh hr hg => ?_⟩
   have hl : vs.length = 1 := hr.1
   obtain ⟨v1, rfl⟩ := List.length_eq_one_iff.1 hl
   have h1 : RelP σ v1 (.agg [.str k, .str s, .str nm]) := hr.2 0 v1 _ rfl rfl
   obtain ⟨cs, rfl, hcs⟩ := h1
   have hc0 : cs = [.string k, .string s, .string nm] := by
    have hlen := hcs.1
    obtain ⟨a, b, c, rfl⟩ : ∃ a b c, cs = [a, b, c] := by
     rcases cs with _ | ⟨a, _ | ⟨b, _ | ⟨c, _ | ⟨d, l⟩⟩⟩⟩ <;> simp at hlen
     exact ⟨a, b, c, rfl⟩
    have r0 := hcs.2 0 a (.str k) rfl rfl
    have r1 := hcs.2 1 b (.str s) rfl rfl
    have r2 := hcs.2 2 c (.str nm) rfl rfl
    cases r0; cases r1; cases r2
    rfl
   subst hc0
   refine (ownerErr_any k s nm w i hz hI n hA hg).mono ?_
   rintro e w' ⟨rfl, hb⟩
   refine ⟨σ, _, rfl, Ext.refl _ _, hh.on hb, hb, ⟨[.string ⟨#[]⟩, .int .i64 0, .bool false], rfl, rfl, fun j v a hv ha => ?_⟩⟩
   rcases j with _ | _ | _ | j <;> simp at hv ha
   ·subst hv ha; exact .str _
   ·subst hv ha; exact .int _ _
   ·subst hv ha; exact .bool _
end Go.Proofs.YtgidajjjpeboeaaGreatDoor
