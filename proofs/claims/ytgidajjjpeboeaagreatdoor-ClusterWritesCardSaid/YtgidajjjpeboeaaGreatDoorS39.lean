/-
  The texts that the claim wants, one behind the other: part 39.
-/
import Derived.Test.YtgidajjjpeboeaaGreatDoorS38
import Derived.Lib.Strings
import Derived.BigQuiet
set_option linter.unusedSimpArgs false
set_option linter.unusedVariables false
namespace Go.Proofs.YtgidajjjpeboeaaGreatDoor
open Go.RowKit
theorem refSize_a (n : Nat) : ∀ v : V, v.size ≤ n → v.size ≤ 2000000000000 → AC Tryz.prog 166 [(vA (v))] (.int .i64 v.size) := by
 induction n with
 | zero => intro v h; have := v.size_pos; omega
 | succ n ih =>
  intro v hn hsz
  have hve := v.size_eq
  have hll := len_le_sizeL v.l
  have hlm := len_le_sizeM v.m
  refine kE Tryz.func166 a_ref01_Size_ok a_ref01_Size_cb fun E hE => ?_
  refine kW ?_
  refine AK.loopI (fun k : Nat => (frOf [(1, .ptr 1 0), (3, .int .i64 ((1 + sizeL (v.l.take k) : Nat) : Int)), (4, .int .i64 k)], ⟨boxOf [(1, (vC (v)), false)], fun _ => 0⟩)) (fun k => k ≤ v.l.length) (fun k => v.l.length - k) 0 (by omega) (Weak.intro ⟨kI, kI, kI, trivial⟩ ⟨kJ, trivial⟩ rfl rfl) fun k hk => ?_
  refine kW ?_
  refine kC (fun hb => ?_) fun hb => ?_
  ·have hlt : k < v.l.length := by simpa [rowsV_len] using hb
   obtain ⟨x, hg⟩ : ∃ x, v.l[k]? = some x := ⟨_, List.getElem?_eq_getElem hlt⟩
   have hx := sizeL_take hg
   have hx2 := sizeL_take_le v.l (k + 1)
   refine kW ?_
   refine kP [.c (vC (x)), .v (.int .i64 x.size)] ?_ ?_
   ·((repeat' apply And.intro) <;> first | exact kD | (intro hgd; refine ⟨?_, kG⟩; (repeat' apply And.intro) <;> first | exact kD | skip) | skip)
    ·exact rowsV_at hg
    ·exact ih x (by omega) (by omega)
   refine kW ?_
   exact AK.lp ⟨k + 1, by omega, Weak.intro ⟨kI, kU, kU, trivial⟩ ⟨kJ, trivial⟩ rfl rfl, by omega⟩
  ·have hlt : k = v.l.length := by have : v.l.length ≤ k := by simpa [rowsV_len] using hb
                                   omega
   subst hlt
   rw [List.take_length]
   refine AK.exit rfl ?_
   refine kW ?_
   refine AK.loopI (fun k : Nat => (frOf [(1, .ptr 1 0), (3, .int .i64 ((1 + sizeL v.l + sizeM (v.m.take k) : Nat) : Int)), (5, .int .i64 k)], ⟨boxOf [(1, (vC (v)), false)], fun _ => 0⟩)) (fun k => k ≤ v.m.length) (fun k => v.m.length - k) 0 (by omega) (Weak.intro ⟨kI, kI, kI, trivial⟩ ⟨kJ, trivial⟩ rfl rfl) fun k hk => ?_
   refine kW ?_
   refine kC (fun hb => ?_) fun hb => ?_
   ·have hlt : k < v.m.length := by simpa [rowsM_len] using hb
    obtain ⟨⟨y, x⟩, hg⟩ : ∃ x, v.m[k]? = some x := ⟨_, List.getElem?_eq_getElem hlt⟩
    have hx := sizeM_take hg
    have hx2 := sizeM_take_le v.m (k + 1)
    refine kW ?_
    refine kP [.c (.str y :: (vC (x))), .v (.int .i64 x.size)] ?_ ?_
    ·((repeat' apply And.intro) <;> first | exact kD | (intro hgd; refine ⟨?_, kG⟩; (repeat' apply And.intro) <;> first | exact kD | skip) | skip)
     ·exact rowsM_at hg
     ·exact ih x (by omega) (by omega)
    refine kW ?_
    exact AK.lp ⟨k + 1, by omega, Weak.intro ⟨kI, kU, kU, trivial⟩ ⟨kJ, trivial⟩ rfl rfl, by omega⟩
   ·have hlt : k = v.m.length := by have : v.m.length ≤ k := by simpa [rowsM_len] using hb
                                    omega
    subst hlt
    rw [List.take_length]
    refine AK.exit rfl ?_
    refine kW ?_
    refine AK.ret ⟨_, rfl, ?_⟩
    rw [hve]
    rfl
theorem refDepth_a (n : Nat) : ∀ v : V, v.size ≤ n → v.size ≤ 2000000000000 → AC Tryz.prog 165 [(vA (v))] (.int .i64 v.depth) := by
 induction n with
 | zero => intro v h; have := v.size_pos; omega
 | succ n ih =>
  intro v hn hsz
  have hve := v.size_eq
  have hde := v.depth_eq
  have hds := v.depth_le_size'
  have hll := len_le_sizeL v.l
  have hlm := len_le_sizeM v.m
  refine kE Tryz.func165 a_ref01_Depth_ok a_ref01_Depth_cb fun E hE => ?_
  refine kW ?_
  refine AK.loopI (fun k : Nat => (frOf [(1, .ptr 1 0), (3, .int .i64 (depthL (v.l.take k) : Nat)), (4, .int .i64 k)], ⟨boxOf [(1, (vC (v)), false)], fun _ => 0⟩)) (fun k => k ≤ v.l.length) (fun k => v.l.length - k) 0 (by omega) (Weak.intro ⟨kI, kI, kI, trivial⟩ ⟨kJ, trivial⟩ rfl rfl) fun k hk => ?_
  refine kW ?_
  refine kC (fun hb => ?_) fun hb => ?_
  ·have hlt : k < v.l.length := by simpa [rowsV_len] using hb
   obtain ⟨x, hg⟩ : ∃ x, v.l[k]? = some x := ⟨_, List.getElem?_eq_getElem hlt⟩
   have hx := sizeL_take hg
   have hx2 := sizeL_take_le v.l (k + 1)
   have hd := depthL_take hg
   have hd2 := depthL_take_le v.l (k + 1)
   have hd3 := depthL_take_le v.l k
   have hd4 := x.depth_le_size'
   refine kW ?_
   refine kP [.c (vC (x)), .v (.int .i64 x.depth)] ?_ ?_
   ·((repeat' apply And.intro) <;> first | exact kD | (intro hgd; refine ⟨?_, kG⟩; (repeat' apply And.intro) <;> first | exact kD | skip) | skip)
    ·exact rowsV_at hg
    ·exact ih x (by omega) (by omega)
   refine kW ?_
   refine kC (fun hb => ?_) fun hb => ?_
   ·have hm : depthL (v.l.take k) < x.depth := by simpa using hb
    refine kW ?_
    exact AK.lp ⟨k + 1, by omega, Weak.intro ⟨kI, kU, kU, trivial⟩ ⟨kJ, trivial⟩ rfl rfl, by omega⟩
   ·have hm : x.depth ≤ depthL (v.l.take k) := by simpa using hb
    refine kW ?_
    exact AK.lp ⟨k + 1, by omega, Weak.intro ⟨kI, kU, kU, trivial⟩ ⟨kJ, trivial⟩ rfl rfl, by omega⟩
  ·have hlt : k = v.l.length := by have : v.l.length ≤ k := by simpa [rowsV_len] using hb
                                   omega
   subst hlt
   rw [List.take_length]
   refine AK.exit rfl ?_
   refine kW ?_
   refine AK.loopI (fun k : Nat => (frOf [(1, .ptr 1 0), (3, .int .i64 (max (depthL v.l) (depthM (v.m.take k)) : Nat)), (6, .int .i64 k)], ⟨boxOf [(1, (vC (v)), false)], fun _ => 0⟩)) (fun k => k ≤ v.m.length) (fun k => v.m.length - k) 0 (by omega) (Weak.intro ⟨kI, ⟨_, rfl, .of_eq (by simp [depthM])⟩, kI, trivial⟩ ⟨kJ, trivial⟩ rfl rfl) fun k hk => ?_
   refine kW ?_
   refine kC (fun hb => ?_) fun hb => ?_
   ·have hlt : k < v.m.length := by simpa [rowsM_len] using hb
    obtain ⟨⟨y, x⟩, hg⟩ : ∃ x, v.m[k]? = some x := ⟨_, List.getElem?_eq_getElem hlt⟩
    have hx := sizeM_take hg
    have hx2 := sizeM_take_le v.m (k + 1)
    have hd := depthM_take hg
    have hd2 := depthM_take_le v.m (k + 1)
    have hd3 := depthM_take_le v.m k
    have hd4 := x.depth_le_size'
    refine kW ?_
    refine kP [.c (.str y :: (vC (x))), .v (.int .i64 x.depth)] ?_ ?_
    ·((repeat' apply And.intro) <;> first | exact kD | (intro hgd; refine ⟨?_, kG⟩; (repeat' apply And.intro) <;> first | exact kD | skip) | skip)
     ·exact rowsM_at hg
     ·exact ih x (by omega) (by omega)
    refine kW ?_
    refine kC (fun hb => ?_) fun hb => ?_
    ·have hm : max (depthL v.l) (depthM (v.m.take k)) < x.depth := by simpa using hb
     refine kW ?_
     exact AK.lp ⟨k + 1, by omega, Weak.intro ⟨kI, kU, kU, trivial⟩ ⟨kJ, trivial⟩ rfl rfl, by omega⟩
    ·have hm : x.depth ≤ max (depthL v.l) (depthM (v.m.take k)) := by simpa using hb
     refine kW ?_
     exact AK.lp ⟨k + 1, by omega, Weak.intro ⟨kI, kU, kU, trivial⟩ ⟨kJ, trivial⟩ rfl rfl, by omega⟩
   ·have hlt : k = v.m.length := by have : v.m.length ≤ k := by simpa [rowsM_len] using hb
                                    omega
    subst hlt
    rw [List.take_length]
    refine AK.exit rfl ?_
    refine kW ?_
    refine AK.ret ⟨_, rfl, ?_⟩
    rw [wrap_in (by omega) (by omega), hde]
    rfl
theorem refKey_a (s : ByteArray) (hs : s.size ≤ 140737488355328) : AC Tryz.prog 194 [.str s] (.bool (keyB s)) := by
 refine kE Tryz.func194 a_ref01_Key_ok a_ref01_Key_cb fun E hE => ?_
 refine kW ?_
 refine AK.loopI (fun k : Nat => (frOf [(0, .str s), (3, .int .i64 k)], ⟨boxOf [], fun _ => 0⟩)) (fun k => k ≤ s.size ∧ allTo okK s k) (fun k => s.size - k) 0 ⟨by omega, allTo_zero _ _⟩ (Weak.intro ⟨kI, kI, trivial⟩ trivial rfl rfl) fun k ⟨hk, hno⟩ => ?_
 refine kW ?_
 refine kC (fun hb => ?_) fun hb => ?_
 ·have hlt : k < s.size := by simpa using hb
  refine kW ?_
  refine kQ [] ?_
  rw [show s.data.getD (k : Int).toNat 0 = s[k] from byte_at hlt]
  refine kC (fun hb => ?_) fun hb => ?_
  ·refine kW ?_
   refine AK.ret ⟨_, rfl, ?_⟩
   have hf : okK s[k] = false := by
    simp only [Bool.or_eq_true, decide_eq_true_eq] at hb
    simp only [okK, Bool.and_eq_false_iff, decide_eq_false_iff_not]
    omega
   rw [keyB, allB_false hlt hf]
   rfl
  ·have ht : okK s[k] = true := by
    simp only [Bool.or_eq_false_iff, decide_eq_false_iff_not] at hb
    simp only [okK, Bool.and_eq_true, decide_eq_true_eq]
    omega
   refine kW ?_
   exact AK.lp ⟨k + 1, ⟨by omega, allTo_succ hno hlt ht⟩, Weak.intro ⟨kI, kU, trivial⟩ trivial rfl rfl, by omega⟩
 ·have hlt : k = s.size := by have : s.size ≤ k := by simpa using hb
                              omega
  subst hlt
  refine AK.exit rfl ?_
  refine kW ?_
  refine kQ [] ?_
  refine kW ?_
  refine AK.ret ⟨_, rfl, ?_⟩
  show AV.bool _ = AV.bool _
  refine congrArg AV.bool ?_
  rw [keyB, allB_true hno, Bool.eq_iff_iff]
  simp
  try omega
end Go.Proofs.YtgidajjjpeboeaaGreatDoor
/-
 The document's functions parts and Check, walked as instructions.
-/
namespace Go.Proofs.YtgidajjjpeboeaaGreatDoor
open Go.RowKit
theorem kbad_eq {v : V} : kbad v.kind v.b v.n v.s v.l.length v.m.length = (decide (v.kind < 0) || decide (v.kind > 5) || !decide (v.kind = 1) && v.b || !decide (v.kind = 2) && !decide (v.n = 0) || !decide (v.kind = 3) && !decide (v.s = { data := #[] }) ||
  !decide (v.kind = 4) && decide (((rowsV v.l).length : Int) > 0) || !decide (v.kind = 5) && decide (((rowsM v.m).length : Int) > 0)) := by
 rw [rowsV_len, rowsM_len]
 unfold kbad noBytes
 rw [Bool.eq_iff_iff]
 simp
theorem partsC_kind {v : V} (h : kbad v.kind v.b v.n v.s v.l.length v.m.length = true) : v.partsC = 8 := by rw [V.partsC_eq, if_pos h]
theorem partsC_text {v : V} (h : kbad v.kind v.b v.n v.s v.l.length v.m.length = false) (ht : textB v.s = false) : v.partsC = 10 := by rw [V.partsC_eq, if_neg (by simp [h]), if_pos ht]
theorem partsC_list {v : V} (h : kbad v.kind v.b v.n v.s v.l.length v.m.length = false) (ht : textB v.s = true) (hl : partsL v.l ≠ 0) : v.partsC = partsL v.l := by rw [V.partsC_eq, if_neg (by simp [h]), if_neg (by simp [ht]), if_pos hl]
theorem partsC_map {v : V} (h : kbad v.kind v.b v.n v.s v.l.length v.m.length = false) (ht : textB v.s = true) (hl : partsL v.l = 0) : v.partsC = partsM none v.m := by rw [V.partsC_eq, if_neg (by simp [h]), if_neg (by simp [ht]), if_neg (by simp [hl])]
theorem noRise_eq {m : List (ByteArray × V)} {k : Nat} {y z : ByteArray} {x' : V} (hz : 0 < k → m[k - 1]? = some (z, x')) : noRise (prevK m k) y = (decide ((k : Int) > 0) && !Op.bytesLess z.toList y.toList) := by
 cases k with
 | zero => simp [prevK, noRise]
 | succ k =>
  have := hz (by omega)
  simp only [Nat.add_sub_cancel] at this
  have e : decide (((k + 1 : Nat) : Int) > 0) = true := decide_eq_true (by omega)
  rw [prevK, this, e]; simp [noRise]
set_option maxRecDepth 4000 in
theorem refParts_a (n : Nat) : ∀ v : V, v.size ≤ n → v.sb → v.size ≤ 2000000000000 → AC Tryz.prog 167 [(vA (v))] (.int .i64 v.partsC) := by
 induction n with
 | zero => intro v h; have := v.size_pos; omega
 | succ n ih =>
  intro v hn hsb hsz
  have hve := v.size_eq
  have hll := len_le_sizeL v.l
  have hlm := len_le_sizeM v.m
  refine kE Tryz.func167 a_ref01_parts_ok a_ref01_parts_cb fun E hE => ?_
  refine kW ?_
  refine kQ [] ?_
  refine kC (fun hb => ?_) fun hb => ?_
  ·refine kW ?_
   refine AK.ret ⟨_, rfl, ?_⟩
   exact congrArg (AV.int _) (partsC_kind (kbad_eq.trans hb)).symm
  have hk0 := kbad_eq.trans hb
  refine kW ?_
  refine kP [.v (.bool (textB v.s))] ?_ ?_
  ·((repeat' apply And.intro) <;> first | exact kD | (intro hgd; refine ⟨?_, kG⟩; (repeat' apply And.intro) <;> first | exact kD | skip) | skip)
   ·exact refText_a _ (sb_s hsb)
  refine kC (fun hb => ?_) fun hb => ?_
  ·refine kW ?_
   refine AK.ret ⟨_, rfl, ?_⟩
   exact congrArg (AV.int _) (partsC_text hk0 (by simpa using hb)).symm
  have ht0 : textB v.s = true := by simpa using hb
  refine kW ?_
  refine AK.loopI (fun k : Nat => (frOf [(1, .ptr 1 0), (3, .int .i64 k)], ⟨boxOf [(1, (vC (v)), false)], fun _ => 0⟩)) (fun k => k ≤ v.l.length ∧ partsL (v.l.drop k) = partsL v.l) (fun k => v.l.length - k) 0 ⟨by omega, rfl⟩ (Weak.intro ⟨kI, kI, trivial⟩ ⟨kJ, trivial⟩ rfl rfl) fun k ⟨hk, hr⟩ => ?_
  refine kW ?_
  refine kC (fun hb => ?_) fun hb => ?_
  ·have hlt : k < v.l.length := by simpa [rowsV_len] using hb
   obtain ⟨x, hg⟩ : ∃ x, v.l[k]? = some x := ⟨_, List.getElem?_eq_getElem hlt⟩
   have hx := sizeL_take hg
   have hx2 := sizeL_take_le v.l (k + 1)
   rw [partsL_drop hg] at hr
   refine kW ?_
   refine kP [.c (vC (x)), .v (.int .i64 x.partsC)] ?_ ?_
   ·((repeat' apply And.intro) <;> first | exact kD | (intro hgd; refine ⟨?_, kG⟩; (repeat' apply And.intro) <;> first | exact kD | skip) | skip)
    ·exact rowsV_at hg
    ·exact ih x (by omega) (sb_l hsb hg) (by omega)
   refine kW ?_
   refine kC (fun hb => ?_) fun hb => ?_
   ·have he : x.partsC ≠ 0 := by simpa using hb
    rw [if_pos he] at hr
    refine kW ?_
    refine AK.ret ⟨_, rfl, ?_⟩
    exact congrArg (AV.int _) (by rw [partsC_list hk0 ht0 (by rw [← hr]; exact he)]; exact hr)
   ·have he : ¬ x.partsC ≠ 0 := by simpa using hb
    rw [if_neg he] at hr
    refine kW ?_
    exact AK.lp ⟨k + 1, ⟨by omega, hr⟩, Weak.intro ⟨kI, kU, trivial⟩ ⟨kJ, trivial⟩ rfl rfl, by omega⟩
  ·have hlt : k = v.l.length := by have : v.l.length ≤ k := by simpa [rowsV_len] using hb
                                   omega
   subst hlt
   have hl0 : partsL v.l = 0 := by rw [← hr, List.drop_length]; rfl
   clear hr
   refine AK.exit rfl ?_
   refine kW ?_
   refine AK.loopI (fun k : Nat => (frOf [(1, .ptr 1 0), (5, .int .i64 k)], ⟨boxOf [(1, (vC (v)), false)], fun _ => 0⟩)) (fun k => k ≤ v.m.length ∧ partsM (prevK v.m k) (v.m.drop k) = v.partsC) (fun k => v.m.length - k) 0 ⟨by omega, (partsC_map hk0 ht0 hl0).symm⟩ (Weak.intro ⟨kI, kI, trivial⟩ ⟨kJ, trivial⟩ rfl rfl) fun k ⟨hk, hr⟩ => ?_
   refine kW ?_
   refine kC (fun hb => ?_) fun hb => ?_
   ·have hlt : k < v.m.length := by simpa [rowsM_len] using hb
    obtain ⟨⟨y, x⟩, hg⟩ : ∃ x, v.m[k]? = some x := ⟨_, List.getElem?_eq_getElem hlt⟩
    obtain ⟨z, x', hz⟩ : ∃ z x', 0 < k → v.m[k - 1]? = some (z, x') := by
     by_cases h0 : 0 < k
     ·exact ⟨(v.m[k - 1]'(by omega)).1, (v.m[k - 1]'(by omega)).2, fun _ => List.getElem?_eq_getElem (by omega)⟩
     ·exact ⟨y, x, fun h => absurd h h0⟩
    have hx := sizeM_take hg
    have hx2 := sizeM_take_le v.m (k + 1)
    rw [partsM_drop hg] at hr
    refine kW ?_
    refine kP [.c (.str y :: (vC (x))), .v (.bool (keyB y))] ?_ ?_
    ·((repeat' apply And.intro) <;> first | exact kD | (intro hgd; refine ⟨?_, kG⟩; (repeat' apply And.intro) <;> first | exact kD | skip) | skip)
     ·exact rowsM_at hg
     ·exact refKey_a _ (sb_m hsb hg).1
    refine kC (fun hb => ?_) fun hb => ?_
    ·refine kW ?_
     refine AK.ret ⟨_, rfl, ?_⟩
     exact congrArg (AV.int _) (by rw [← hr, if_pos (by simpa using hb)])
    rw [if_neg (by simpa using hb)] at hr
    refine kW ?_
    refine kP [.c (.str y :: (vC (x))), .c (.str z :: (vC (x')))] ?_ ?_
    ·((repeat' apply And.intro) <;> first | exact kD | (intro hgd; refine ⟨?_, kG⟩; (repeat' apply And.intro) <;> first | exact kD | skip) | skip)
     ·exact rowsM_at hg
     ·have h0 : 0 < k := by simpa [gd] using hgd
      rw [wrap_in (by omega) (by omega)]; omega
     ·have h0 : 0 < k := by simpa [gd] using hgd
      rw [wrap_in (by omega) (by omega), show ((k : Int) - 1).toNat = k - 1 by omega]
      exact rowsM_at (hz h0)
    have hn := noRise_eq (y := y) hz
    refine kC (fun hb => ?_) fun hb => ?_
    ·refine kW ?_
     refine AK.ret ⟨_, rfl, ?_⟩
     exact congrArg (AV.int _) (by rw [← hr, if_pos (hn.trans hb)])
    rw [if_neg (by rw [hn, hb]; decide)] at hr
    refine kW ?_
    refine kP [.c (.str y :: (vC (x))), .v (.int .i64 x.partsC)] ?_ ?_
    ·((repeat' apply And.intro) <;> first | exact kD | (intro hgd; refine ⟨?_, kG⟩; (repeat' apply And.intro) <;> first | exact kD | skip) | skip)
     ·exact rowsM_at hg
     ·exact ih x (by omega) (sb_m hsb hg).2 (by omega)
    refine kW ?_
    refine kC (fun hb => ?_) fun hb => ?_
    ·have he : x.partsC ≠ 0 := by simpa using hb
     rw [if_pos he] at hr
     refine kW ?_
     refine AK.ret ⟨_, rfl, ?_⟩
     exact congrArg (AV.int _) hr
    ·have he : ¬ x.partsC ≠ 0 := by simpa using hb
     rw [if_neg he] at hr
     refine kW ?_
     exact AK.lp ⟨k + 1, ⟨by omega, hr⟩, Weak.intro ⟨kI, kU, trivial⟩ ⟨kJ, trivial⟩ rfl rfl, by omega⟩
   ·have hlt : k = v.m.length := by have : v.m.length ≤ k := by simpa [rowsM_len] using hb
                                    omega
    subst hlt
    refine AK.exit rfl ?_
    refine kW ?_
    refine AK.ret ⟨_, rfl, ?_⟩
    exact congrArg (AV.int _) (by rw [← hr, List.drop_length]; rfl)
theorem refCheck_a (v : V) (hsb : v.sb) (hsz : v.size ≤ 2000000000000) : AC Tryz.prog 107 [(vA (v))] (.int .i64 v.checkC) := by
 refine kE Tryz.func107 a_ref01_Check_ok a_ref01_Check_cb fun E hE => ?_
 refine kW ?_
 refine kP [.v (.int .i64 v.depth)] ?_ ?_
 ·((repeat' apply And.intro) <;> first | exact kD | (intro hgd; refine ⟨?_, kG⟩; (repeat' apply And.intro) <;> first | exact kD | skip) | skip)
  ·exact refDepth_a _ v (Nat.le_refl _) hsz
 refine kC (fun hb => ?_) fun hb => ?_
 ·have h1 : 16 < v.depth := by have : (16 : Int) < v.depth := by simpa using hb
                               omega
  refine kW ?_
  refine AK.ret ⟨_, rfl, ?_⟩
  exact congrArg (AV.int _) (by rw [V.checkC, if_pos h1])
 have h1 : ¬ 16 < v.depth := by have : (v.depth : Int) ≤ 16 := by simpa using hb
                                omega
 refine kW ?_
 refine kP [.v (.int .i64 v.size)] ?_ ?_
 ·((repeat' apply And.intro) <;> first | exact kD | (intro hgd; refine ⟨?_, kG⟩; (repeat' apply And.intro) <;> first | exact kD | skip) | skip)
  ·exact refSize_a _ v (Nat.le_refl _) hsz
 refine kC (fun hb => ?_) fun hb => ?_
 ·have h2 : 4096 < v.size := by have : (4096 : Int) < v.size := by simpa using hb
                                omega
  refine kW ?_
  refine AK.ret ⟨_, rfl, ?_⟩
  exact congrArg (AV.int _) (by rw [V.checkC, if_neg h1, if_pos h2])
 have h2 : ¬ 4096 < v.size := by have : (v.size : Int) ≤ 4096 := by simpa using hb
                                 omega
 refine kW ?_
 refine kP [.v (.int .i64 v.partsC)] ?_ ?_
 ·((repeat' apply And.intro) <;> first | exact kD | (intro hgd; refine ⟨?_, kG⟩; (repeat' apply And.intro) <;> first | exact kD | skip) | skip)
  ·exact refParts_a _ v (Nat.le_refl _) hsb hsz
 refine kW ?_
 refine AK.ret ⟨_, rfl, ?_⟩
 exact congrArg (AV.int _) (by rw [V.checkC, if_neg h1, if_neg h2])
theorem sz0 (s : ByteArray) : s = ByteArray.empty ↔ s.size = 0 := by
 refine ⟨fun h => by subst h; rfl, fun h => ?_⟩
 cases s with
 | mk a =>
  have : a = #[] := Array.eq_empty_of_size_eq_zero h
  subst this; rfl
theorem two_args {σ : Sg} {vs : List Value} {a b : AV} (hr : RelPs σ vs [a, b]) : ∃ x y, vs = [x, y] ∧ RelP σ x a ∧ RelP σ y b := by
 have hl : vs.length = 2 := hr.1
 obtain ⟨v1, v2, rfl⟩ : ∃ a b, vs = [a, b] := by
  rcases vs with _ | ⟨a, _ | ⟨b, _ | ⟨d, l⟩⟩⟩ <;> simp at hl
  exact ⟨a, b, rfl⟩
 exact ⟨v1, v2, rfl, hr.2 0 v1 _ rfl rfl, hr.2 1 v2 _ rfl rfl⟩
theorem ix_cases (l : List UInt8) (c : UInt8) : (Lib.indexByte l c = -1 ∧ c ∉ l) ∨ ∃ i : Nat, Lib.indexByte l c = i ∧ i < l.length ∧ l[i]? = some c ∧ c ∉ l.take i := by
 induction l with
 | nil => exact .inl ⟨rfl, by simp⟩
 | cons b l ih =>
  rw [Lib.indexByte]
  by_cases h : b = c
  ·subst h
   exact .inr ⟨0, by simp, by simp, rfl, by simp⟩
  ·rw [if_neg (by simpa using h)]
   rcases ih with ⟨h1, h2⟩ | ⟨i, h1, h2, h3, h4⟩
   ·exact .inl ⟨by rw [h1]; rfl, by simp [h2, Ne.symm h]⟩
   ·refine .inr ⟨i + 1, ?_, by simp; omega, by simpa using h3, by simp [h4, Ne.symm h]⟩
    rw [h1, if_neg (by simp)]
    simp
theorem contains1_a (s : ByteArray) (c : UInt8) : AC Tryz.prog 96 [.str s, .str ⟨#[c]⟩] (.bool (decide (c ∈ s.data.toList))) := by
 refine ⟨by kernel_rfl, fun σ w vs hh hr hg => ?_⟩
 obtain ⟨v1, v2, rfl, h1, h2⟩ := two_args hr
 have h1 : Rel1 σ v1 (.str s) := h1
 have h2 : Rel1 σ v2 (.str ⟨#[c]⟩) := h2
 cases h1; cases h2
 refine (Tryz.strings_Contains_one s c w).mono ?_
 rintro e w' ⟨rfl, rfl⟩
 have e : decide (0 ≤ Lib.indexByte s.data.toList c) = decide (c ∈ s.data.toList) := by
  rcases ix_cases s.data.toList c with ⟨h1, h2⟩ | ⟨i, h1, h2, h3, h4⟩
  ·rw [h1, decide_eq_false h2]; rfl
  ·rw [h1, decide_eq_true (show 0 ≤ (i : Int) by omega), decide_eq_true (List.mem_of_getElem? h3)]
 rw [e]
 exact ⟨σ, _, rfl, Ext.refl _ _, hh, Below.refl _ _, .bool _⟩
theorem key_eq (s : ByteArray) : keyB s = ((decide (1 ≤ s.size) && decide (s.size ≤ 256)) && textB s && !decide (10 ∈ s.data.toList) && !decide (9 ∈ s.data.toList)) := by
 rw [Bool.eq_iff_iff]
 simp only [keyB, textB, allB, Bool.and_eq_true, Bool.not_eq_true', decide_eq_true_eq, decide_eq_false_iff_not, List.all_eq_true]
 constructor
 ·rintro ⟨h1, h2, h3⟩
  refine ⟨⟨⟨⟨h2, h3⟩, fun x hx => ?_, by omega⟩, fun hm => ?_⟩, fun hm => ?_⟩
  ·have := h1 x hx
   simp only [okK, Bool.and_eq_true, decide_eq_true_eq] at this
   simp [okT, this]
  ·have := h1 _ hm
   exact absurd this (by decide)
  ·have := h1 _ hm
   exact absurd this (by decide)
 ·rintro ⟨⟨⟨⟨h2, h3⟩, h1, _⟩, h10⟩, h9⟩
  refine ⟨fun x hx => ?_, h2, h3⟩
  have := h1 x hx
  simp only [okT, Bool.or_eq_true, Bool.and_eq_true, decide_eq_true_eq, beq_iff_eq] at this
  simp only [okK, Bool.and_eq_true, decide_eq_true_eq]
  rcases this with (h | h) | h
  ·exact h
  ·exact absurd (show (9 : UInt8) ∈ s.data.toList by rw [← show x = 9 from UInt8.toNat_inj.1 h]; exact hx) h9
  ·exact absurd (show (10 : UInt8) ∈ s.data.toList by rw [← show x = 10 from UInt8.toNat_inj.1 h]; exact hx) h10
theorem treeKey_a (s : ByteArray) (hs : s.size ≤ 140737488355328) : AC Tryz.prog 175 [.str s] (.bool (keyB s)) := by
 have h1 := treeText_a s hs
 have h2 := contains1_a s 10
 have h3 := contains1_a s 9
 refine kE Tryz.func175 a_tree_Key_ok a_tree_Key_cb fun E hE => ?_
 refine kW ?_
 refine kQ [.v (.bool (textB s)), .v (.bool (decide (10 ∈ s.data.toList))), .v (.bool (decide (9 ∈ s.data.toList)))] ?_
 refine kW ?_
 refine AK.ret ⟨_, rfl, ?_⟩
 refine congrArg AV.bool ?_
 rw [key_eq]
 have hz := sz0 s
 by_cases h0 : s.size = 0
 ·have := hz.2 h0
  subst this
  rfl
 ·have hn : ¬ s = ⟨#[]⟩ := fun e => h0 (hz.1 e)
  have h1' : 1 ≤ s.size := by omega
  have h256 : decide ((s.size : Int) ≤ 256) = decide (s.size ≤ 256) := by rw [Bool.eq_iff_iff]; simp; omega
  rw [decide_eq_false hn, decide_eq_true h1', h256]
  rfl
end Go.Proofs.YtgidajjjpeboeaaGreatDoor
/-
 tree.bare, walked.
-/
namespace Go.Proofs.YtgidajjjpeboeaaGreatDoor
open Go.RowKit
end Go.Proofs.YtgidajjjpeboeaaGreatDoor
