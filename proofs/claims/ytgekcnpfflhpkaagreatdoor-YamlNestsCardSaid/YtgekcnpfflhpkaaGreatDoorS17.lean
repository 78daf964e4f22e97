/-
  The texts that the claim wants, one behind the other: part 17.
-/
import Derived.Test.YtgekcnpfflhpkaaGreatDoorS16
import Derived.BigQuiet
set_option linter.unusedSimpArgs false
set_option linter.unusedVariables false
namespace Go.Proofs.YtgekcnpfflhpkaaGreatDoor
open Go.RowKit
theorem refSize_a (n : Nat) : ∀ v : V, v.size ≤ n → v.size ≤ 2000000000000 → AC Tryz.prog 58 [.agg [.int .i64 (v).kind, .bool (v).b, .int .i64 (v).n, .str (v).s, .lst .any 6 (rowsV (v).l), .lst .any 7 (rowsM (v).m)]] (.int .i64 v.size) := by
 induction n with
 | zero => intro v h; have := v.size_pos; omega
 | succ n ih =>
  intro v hn hsz
  have hve := v.size_eq
  have hll := len_le_sizeL v.l
  have hlm := len_le_sizeM v.m
  refine kE Tryz.func58 a_ref01_Size_ok a_ref01_Size_cb fun E hE => ?_
  refine kW ?_
  refine AK.loopI (fun k : Nat => (frOf [(1, .ptr 1 0), (3, .int .i64 ((1 + sizeL (v.l.take k) : Nat) : Int)), (4, .int .i64 k)], ⟨boxOf [(1, [.int .i64 (v).kind, .bool (v).b, .int .i64 (v).n, .str (v).s, .lst .any 6 (rowsV (v).l), .lst .any 7 (rowsM (v).m)], false)], fun _ => 0⟩)) (fun k => k ≤ v.l.length) (fun k => v.l.length - k) 0 (by omega) (Weak.intro ⟨kI, kI, kI, trivial⟩ ⟨kJ, trivial⟩ rfl rfl) fun k hk => ?_
  refine kW ?_
  refine kC (fun hb => ?_) fun hb => ?_
  ·have hlt : k < v.l.length := by simpa [rowsV_len] using hb
   obtain ⟨x, hg⟩ : ∃ x, v.l[k]? = some x := ⟨_, List.getElem?_eq_getElem hlt⟩
   have hx := sizeL_take hg
   have hx2 := sizeL_take_le v.l (k + 1)
   refine kW ?_
   refine kP [.c [.int .i64 (x).kind, .bool (x).b, .int .i64 (x).n, .str (x).s, .lst .any 6 (rowsV (x).l), .lst .any 7 (rowsM (x).m)], .v (.int .i64 x.size)] ?_ ?_
   ·((repeat' apply And.intro) <;> first | exact kD | (intro hgd; refine ⟨?_, kG⟩; (repeat' apply And.intro) <;> first | exact kD | skip) | skip)
    ·exact rowsV_at hg
    ·exact ih x (by omega) (by omega)
   refine kW ?_
   exact AK.lp ⟨k + 1, by omega, Weak.intro ⟨kI, kU, kU, trivial⟩ ⟨kJ, trivial⟩ rfl rfl, by omega⟩
  ·have hlt : k = v.l.length := by have : v.l.length ≤ k := by simpa [rowsV_len] using hb
                                   omega
   subst hlt
   rw [List.take_length]
   refine AK.exit rfl ?_
   refine kW ?_
   refine AK.loopI (fun k : Nat => (frOf [(1, .ptr 1 0), (3, .int .i64 ((1 + sizeL v.l + sizeM (v.m.take k) : Nat) : Int)), (5, .int .i64 k)], ⟨boxOf [(1, [.int .i64 (v).kind, .bool (v).b, .int .i64 (v).n, .str (v).s, .lst .any 6 (rowsV (v).l), .lst .any 7 (rowsM (v).m)], false)], fun _ => 0⟩)) (fun k => k ≤ v.m.length) (fun k => v.m.length - k) 0 (by omega) (Weak.intro ⟨kI, kI, kI, trivial⟩ ⟨kJ, trivial⟩ rfl rfl) fun k hk => ?_
   refine kW ?_
   refine kC (fun hb => ?_) fun hb => ?_
   ·have hlt : k < v.m.length := by simpa [rowsM_len] using hb
    obtain ⟨⟨y, x⟩, hg⟩ : ∃ x, v.m[k]? = some x := ⟨_, List.getElem?_eq_getElem hlt⟩
    have hx := sizeM_take hg
    have hx2 := sizeM_take_le v.m (k + 1)
    refine kW ?_
    refine kP [.c (.str y :: [.int .i64 (x).kind, .bool (x).b, .int .i64 (x).n, .str (x).s, .lst .any 6 (rowsV (x).l), .lst .any 7 (rowsM (x).m)]), .v (.int .i64 x.size)] ?_ ?_
    ·((repeat' apply And.intro) <;> first | exact kD | (intro hgd; refine ⟨?_, kG⟩; (repeat' apply And.intro) <;> first | exact kD | skip) | skip)
     ·exact rowsM_at hg
     ·exact ih x (by omega) (by omega)
    refine kW ?_
    exact AK.lp ⟨k + 1, by omega, Weak.intro ⟨kI, kU, kU, trivial⟩ ⟨kJ, trivial⟩ rfl rfl, by omega⟩
   ·have hlt : k = v.m.length := by have : v.m.length ≤ k := by simpa [rowsM_len] using hb
                                    omega
    subst hlt
    rw [List.take_length]
    refine AK.exit rfl ?_
    refine kW ?_
    refine AK.ret ⟨_, rfl, ?_⟩
    rw [hve]
    rfl
theorem refDepth_a (n : Nat) : ∀ v : V, v.size ≤ n → v.size ≤ 2000000000000 → AC Tryz.prog 57 [.agg [.int .i64 (v).kind, .bool (v).b, .int .i64 (v).n, .str (v).s, .lst .any 6 (rowsV (v).l), .lst .any 7 (rowsM (v).m)]] (.int .i64 v.depth) := by
 induction n with
 | zero => intro v h; have := v.size_pos; omega
 | succ n ih =>
  intro v hn hsz
  have hve := v.size_eq
  have hde := v.depth_eq
  have hds := v.depth_le_size'
  have hll := len_le_sizeL v.l
  have hlm := len_le_sizeM v.m
  refine kE Tryz.func57 a_ref01_Depth_ok a_ref01_Depth_cb fun E hE => ?_
  refine kW ?_
  refine AK.loopI (fun k : Nat => (frOf [(1, .ptr 1 0), (3, .int .i64 (depthL (v.l.take k) : Nat)), (4, .int .i64 k)], ⟨boxOf [(1, [.int .i64 (v).kind, .bool (v).b, .int .i64 (v).n, .str (v).s, .lst .any 6 (rowsV (v).l), .lst .any 7 (rowsM (v).m)], false)], fun _ => 0⟩)) (fun k => k ≤ v.l.length) (fun k => v.l.length - k) 0 (by omega) (Weak.intro ⟨kI, kI, kI, trivial⟩ ⟨kJ, trivial⟩ rfl rfl) fun k hk => ?_
  refine kW ?_
  refine kC (fun hb => ?_) fun hb => ?_
  ·have hlt : k < v.l.length := by simpa [rowsV_len] using hb
   obtain ⟨x, hg⟩ : ∃ x, v.l[k]? = some x := ⟨_, List.getElem?_eq_getElem hlt⟩
   have hx := sizeL_take hg
   have hx2 := sizeL_take_le v.l (k + 1)
   have hd := depthL_take hg
   have hd2 := depthL_take_le v.l (k + 1)
   have hd3 := depthL_take_le v.l k
   have hd4 := x.depth_le_size'
   refine kW ?_
   refine kP [.c [.int .i64 (x).kind, .bool (x).b, .int .i64 (x).n, .str (x).s, .lst .any 6 (rowsV (x).l), .lst .any 7 (rowsM (x).m)], .v (.int .i64 x.depth)] ?_ ?_
   ·((repeat' apply And.intro) <;> first | exact kD | (intro hgd; refine ⟨?_, kG⟩; (repeat' apply And.intro) <;> first | exact kD | skip) | skip)
    ·exact rowsV_at hg
    ·exact ih x (by omega) (by omega)
   refine kW ?_
   refine kC (fun hb => ?_) fun hb => ?_
   ·have hm : depthL (v.l.take k) < x.depth := by simpa using hb
    refine kW ?_
    exact AK.lp ⟨k + 1, by omega, Weak.intro ⟨kI, kU, kU, trivial⟩ ⟨kJ, trivial⟩ rfl rfl, by omega⟩
   ·have hm : x.depth ≤ depthL (v.l.take k) := by simpa using hb
    refine kW ?_
    exact AK.lp ⟨k + 1, by omega, Weak.intro ⟨kI, kU, kU, trivial⟩ ⟨kJ, trivial⟩ rfl rfl, by omega⟩
  ·have hlt : k = v.l.length := by have : v.l.length ≤ k := by simpa [rowsV_len] using hb
                                   omega
   subst hlt
   rw [List.take_length]
   refine AK.exit rfl ?_
   refine kW ?_
   refine AK.loopI (fun k : Nat => (frOf [(1, .ptr 1 0), (3, .int .i64 (max (depthL v.l) (depthM (v.m.take k)) : Nat)), (6, .int .i64 k)], ⟨boxOf [(1, [.int .i64 (v).kind, .bool (v).b, .int .i64 (v).n, .str (v).s, .lst .any 6 (rowsV (v).l), .lst .any 7 (rowsM (v).m)], false)], fun _ => 0⟩)) (fun k => k ≤ v.m.length) (fun k => v.m.length - k) 0 (by omega) (Weak.intro ⟨kI, ⟨_, rfl, .of_eq (by simp [depthM])⟩, kI, trivial⟩ ⟨kJ, trivial⟩ rfl rfl) fun k hk => ?_
   refine kW ?_
   refine kC (fun hb => ?_) fun hb => ?_
   ·have hlt : k < v.m.length := by simpa [rowsM_len] using hb
    obtain ⟨⟨y, x⟩, hg⟩ : ∃ x, v.m[k]? = some x := ⟨_, List.getElem?_eq_getElem hlt⟩
    have hx := sizeM_take hg
    have hx2 := sizeM_take_le v.m (k + 1)
    have hd := depthM_take hg
    have hd2 := depthM_take_le v.m (k + 1)
    have hd3 := depthM_take_le v.m k
    have hd4 := x.depth_le_size'
    refine kW ?_
    refine kP [.c (.str y :: [.int .i64 (x).kind, .bool (x).b, .int .i64 (x).n, .str (x).s, .lst .any 6 (rowsV (x).l), .lst .any 7 (rowsM (x).m)]), .v (.int .i64 x.depth)] ?_ ?_
    ·((repeat' apply And.intro) <;> first | exact kD | (intro hgd; refine ⟨?_, kG⟩; (repeat' apply And.intro) <;> first | exact kD | skip) | skip)
     ·exact rowsM_at hg
     ·exact ih x (by omega) (by omega)
    refine kW ?_
    refine kC (fun hb => ?_) fun hb => ?_
    ·have hm : max (depthL v.l) (depthM (v.m.take k)) < x.depth := by simpa using hb
     refine kW ?_
     exact AK.lp ⟨k + 1, by omega, Weak.intro ⟨kI, kU, kU, trivial⟩ ⟨kJ, trivial⟩ rfl rfl, by omega⟩
    ·have hm : x.depth ≤ max (depthL v.l) (depthM (v.m.take k)) := by simpa using hb
     refine kW ?_
     exact AK.lp ⟨k + 1, by omega, Weak.intro ⟨kI, kU, kU, trivial⟩ ⟨kJ, trivial⟩ rfl rfl, by omega⟩
   ·have hlt : k = v.m.length := by have : v.m.length ≤ k := by simpa [rowsM_len] using hb
                                    omega
    subst hlt
    rw [List.take_length]
    refine AK.exit rfl ?_
    refine kW ?_
    refine AK.ret ⟨_, rfl, ?_⟩
    rw [wrap_in (by omega) (by omega), hde]
    rfl
theorem refKey_a (s : ByteArray) (hs : s.size ≤ 140737488355328) : AC Tryz.prog 100 [.str s] (.bool (keyB s)) := by
 refine kE Tryz.func100 a_ref01_Key_ok a_ref01_Key_cb fun E hE => ?_
 refine kW ?_
 refine AK.loopI (fun k : Nat => (frOf [(0, .str s), (3, .int .i64 k)], ⟨boxOf [], fun _ => 0⟩)) (fun k => k ≤ s.size ∧ allTo okK s k) (fun k => s.size - k) 0 ⟨by omega, allTo_zero _ _⟩ (Weak.intro ⟨kI, kI, trivial⟩ trivial rfl rfl) fun k ⟨hk, hno⟩ => ?_
 refine kW ?_
 refine kC (fun hb => ?_) fun hb => ?_
 ·have hlt : k < s.size := by simpa using hb
  refine kW ?_
  refine kQ [] ?_
  rw [show s.data.getD (k : Int).toNat 0 = s[k] from byte_at hlt]
  refine kC (fun hb => ?_) fun hb => ?_
  ·refine kW ?_
   refine AK.ret ⟨_, rfl, ?_⟩
   have hf : okK s[k] = false := by
    simp only [Bool.or_eq_true, decide_eq_true_eq] at hb
    simp only [okK, Bool.and_eq_false_iff, decide_eq_false_iff_not]
    omega
   rw [keyB, allB_false hlt hf]
   rfl
  ·have ht : okK s[k] = true := by
    simp only [Bool.or_eq_false_iff, decide_eq_false_iff_not] at hb
    simp only [okK, Bool.and_eq_true, decide_eq_true_eq]
    omega
   refine kW ?_
   exact AK.lp ⟨k + 1, ⟨by omega, allTo_succ hno hlt ht⟩, Weak.intro ⟨kI, kU, trivial⟩ trivial rfl rfl, by omega⟩
 ·have hlt : k = s.size := by have : s.size ≤ k := by simpa using hb
                              omega
  subst hlt
  refine AK.exit rfl ?_
  refine kW ?_
  refine kQ [] ?_
  refine kW ?_
  refine AK.ret ⟨_, rfl, ?_⟩
  show AV.bool _ = AV.bool _
  refine congrArg AV.bool ?_
  rw [keyB, allB_true hno, Bool.eq_iff_iff]
  simp
  try omega
end Go.Proofs.YtgekcnpfflhpkaaGreatDoor
/-
 The document's functions parts and Check, walked as instructions.
-/
namespace Go.Proofs.YtgekcnpfflhpkaaGreatDoor
open Go.RowKit
theorem kbad_eq {v : V} : kbad v.kind v.b v.n v.s v.l.length v.m.length = (decide (v.kind < 0) || decide (v.kind > 5) || !decide (v.kind = 1) && v.b || !decide (v.kind = 2) && !decide (v.n = 0) || !decide (v.kind = 3) && !decide (v.s = { data := #[] }) ||
  !decide (v.kind = 4) && decide (((rowsV v.l).length : Int) > 0) || !decide (v.kind = 5) && decide (((rowsM v.m).length : Int) > 0)) := by
 rw [rowsV_len, rowsM_len]
 unfold kbad noBytes
 rw [Bool.eq_iff_iff]
 simp
theorem partsC_kind {v : V} (h : kbad v.kind v.b v.n v.s v.l.length v.m.length = true) : v.partsC = 8 := by rw [V.partsC_eq, if_pos h]
theorem partsC_text {v : V} (h : kbad v.kind v.b v.n v.s v.l.length v.m.length = false) (ht : textB v.s = false) : v.partsC = 10 := by rw [V.partsC_eq, if_neg (by simp [h]), if_pos ht]
theorem partsC_list {v : V} (h : kbad v.kind v.b v.n v.s v.l.length v.m.length = false) (ht : textB v.s = true) (hl : partsL v.l ≠ 0) : v.partsC = partsL v.l := by rw [V.partsC_eq, if_neg (by simp [h]), if_neg (by simp [ht]), if_pos hl]
theorem partsC_map {v : V} (h : kbad v.kind v.b v.n v.s v.l.length v.m.length = false) (ht : textB v.s = true) (hl : partsL v.l = 0) : v.partsC = partsM none v.m := by rw [V.partsC_eq, if_neg (by simp [h]), if_neg (by simp [ht]), if_neg (by simp [hl])]
theorem noRise_eq {m : List (ByteArray × V)} {k : Nat} {y z : ByteArray} {x' : V} (hz : 0 < k → m[k - 1]? = some (z, x')) : noRise (prevK m k) y = (decide ((k : Int) > 0) && !Op.bytesLess z.toList y.toList) := by
 cases k with
 | zero => simp [prevK, noRise]
 | succ k =>
  have := hz (by omega)
  simp only [Nat.add_sub_cancel] at this
  have e : decide (((k + 1 : Nat) : Int) > 0) = true := decide_eq_true (by omega)
  rw [prevK, this, e]; simp [noRise]
set_option maxRecDepth 4000 in
theorem refParts_a (n : Nat) : ∀ v : V, v.size ≤ n → v.sb → v.size ≤ 2000000000000 → AC Tryz.prog 59 [.agg [.int .i64 (v).kind, .bool (v).b, .int .i64 (v).n, .str (v).s, .lst .any 6 (rowsV (v).l), .lst .any 7 (rowsM (v).m)]] (.int .i64 v.partsC) := by
 induction n with
 | zero => intro v h; have := v.size_pos; omega
 | succ n ih =>
  intro v hn hsb hsz
  have hve := v.size_eq
  have hll := len_le_sizeL v.l
  have hlm := len_le_sizeM v.m
  refine kE Tryz.func59 a_ref01_parts_ok a_ref01_parts_cb fun E hE => ?_
  refine kW ?_
  refine kQ [] ?_
  refine kC (fun hb => ?_) fun hb => ?_
  ·refine kW ?_
   refine AK.ret ⟨_, rfl, ?_⟩
   exact congrArg (AV.int _) (partsC_kind (kbad_eq.trans hb)).symm
  have hk0 := kbad_eq.trans hb
  refine kW ?_
  refine kP [.v (.bool (textB v.s))] ?_ ?_
  ·((repeat' apply And.intro) <;> first | exact kD | (intro hgd; refine ⟨?_, kG⟩; (repeat' apply And.intro) <;> first | exact kD | skip) | skip)
   ·exact refText_a _ (sb_s hsb)
  refine kC (fun hb => ?_) fun hb => ?_
  ·refine kW ?_
   refine AK.ret ⟨_, rfl, ?_⟩
   exact congrArg (AV.int _) (partsC_text hk0 (by simpa using hb)).symm
  have ht0 : textB v.s = true := by simpa using hb
  refine kW ?_
  refine AK.loopI (fun k : Nat => (frOf [(1, .ptr 1 0), (3, .int .i64 k)], ⟨boxOf [(1, [.int .i64 (v).kind, .bool (v).b, .int .i64 (v).n, .str (v).s, .lst .any 6 (rowsV (v).l), .lst .any 7 (rowsM (v).m)], false)], fun _ => 0⟩)) (fun k => k ≤ v.l.length ∧ partsL (v.l.drop k) = partsL v.l) (fun k => v.l.length - k) 0 ⟨by omega, rfl⟩ (Weak.intro ⟨kI, kI, trivial⟩ ⟨kJ, trivial⟩ rfl rfl) fun k ⟨hk, hr⟩ => ?_
  refine kW ?_
  refine kC (fun hb => ?_) fun hb => ?_
  ·have hlt : k < v.l.length := by simpa [rowsV_len] using hb
   obtain ⟨x, hg⟩ : ∃ x, v.l[k]? = some x := ⟨_, List.getElem?_eq_getElem hlt⟩
   have hx := sizeL_take hg
   have hx2 := sizeL_take_le v.l (k + 1)
   rw [partsL_drop hg] at hr
   refine kW ?_
   refine kP [.c [.int .i64 (x).kind, .bool (x).b, .int .i64 (x).n, .str (x).s, .lst .any 6 (rowsV (x).l), .lst .any 7 (rowsM (x).m)], .v (.int .i64 x.partsC)] ?_ ?_
   ·((repeat' apply And.intro) <;> first | exact kD | (intro hgd; refine ⟨?_, kG⟩; (repeat' apply And.intro) <;> first | exact kD | skip) | skip)
    ·exact rowsV_at hg
    ·exact ih x (by omega) (sb_l hsb hg) (by omega)
   refine kW ?_
   refine kC (fun hb => ?_) fun hb => ?_
   ·have he : x.partsC ≠ 0 := by simpa using hb
    rw [if_pos he] at hr
    refine kW ?_
    refine AK.ret ⟨_, rfl, ?_⟩
    exact congrArg (AV.int _) (by rw [partsC_list hk0 ht0 (by rw [← hr]; exact he)]; exact hr)
   ·have he : ¬ x.partsC ≠ 0 := by simpa using hb
    rw [if_neg he] at hr
    refine kW ?_
    exact AK.lp ⟨k + 1, ⟨by omega, hr⟩, Weak.intro ⟨kI, kU, trivial⟩ ⟨kJ, trivial⟩ rfl rfl, by omega⟩
  ·have hlt : k = v.l.length := by have : v.l.length ≤ k := by simpa [rowsV_len] using hb
                                   omega
   subst hlt
   have hl0 : partsL v.l = 0 := by rw [← hr, List.drop_length]; rfl
   clear hr
   refine AK.exit rfl ?_
   refine kW ?_
   refine AK.loopI (fun k : Nat => (frOf [(1, .ptr 1 0), (5, .int .i64 k)], ⟨boxOf [(1, [.int .i64 (v).kind, .bool (v).b, .int .i64 (v).n, .str (v).s, .lst .any 6 (rowsV (v).l), .lst .any 7 (rowsM (v).m)], false)], fun _ => 0⟩)) (fun k => k ≤ v.m.length ∧ partsM (prevK v.m k) (v.m.drop k) = v.partsC) (fun k => v.m.length - k) 0 ⟨by omega, (partsC_map hk0 ht0 hl0).symm⟩ (Weak.intro ⟨kI, kI, trivial⟩ ⟨kJ, trivial⟩ rfl rfl) fun k ⟨hk, hr⟩ => ?_
   refine kW ?_
   refine kC (fun hb => ?_) fun hb => ?_
   ·have hlt : k < v.m.length := by simpa [rowsM_len] using hb
    obtain ⟨⟨y, x⟩, hg⟩ : ∃ x, v.m[k]? = some x := ⟨_, List.getElem?_eq_getElem hlt⟩
    obtain ⟨z, x', hz⟩ : ∃ z x', 0 < k → v.m[k - 1]? = some (z, x') := by
     by_cases h0 : 0 < k
     ·exact ⟨(v.m[k - 1]'(by omega)).1, (v.m[k - 1]'(by omega)).2, fun _ => List.getElem?_eq_getElem (by omega)⟩
     ·exact ⟨y, x, fun h => absurd h h0⟩
    have hx := sizeM_take hg
    have hx2 := sizeM_take_le v.m (k + 1)
    rw [partsM_drop hg] at hr
    refine kW ?_
    refine kP [.c (.str y :: [.int .i64 (x).kind, .bool (x).b, .int .i64 (x).n, .str (x).s, .lst .any 6 (rowsV (x).l), .lst .any 7 (rowsM (x).m)]), .v (.bool (keyB y))] ?_ ?_
    ·((repeat' apply And.intro) <;> first | exact kD | (intro hgd; refine ⟨?_, kG⟩; (repeat' apply And.intro) <;> first | exact kD | skip) | skip)
     ·exact rowsM_at hg
     ·exact refKey_a _ (sb_m hsb hg).1
    refine kC (fun hb => ?_) fun hb => ?_
    ·refine kW ?_
     refine AK.ret ⟨_, rfl, ?_⟩
     exact congrArg (AV.int _) (by rw [← hr, if_pos (by simpa using hb)])
    rw [if_neg (by simpa using hb)] at hr
    refine kW ?_
    refine kP [.c (.str y :: [.int .i64 (x).kind, .bool (x).b, .int .i64 (x).n, .str (x).s, .lst .any 6 (rowsV (x).l), .lst .any 7 (rowsM (x).m)]), .c (.str z :: [.int .i64 (x').kind, .bool (x').b, .int .i64 (x').n, .str (x').s, .lst .any 6 (rowsV (x').l), .lst .any 7 (rowsM (x').m)])] ?_ ?_
    ·((repeat' apply And.intro) <;> first | exact kD | (intro hgd; refine ⟨?_, kG⟩; (repeat' apply And.intro) <;> first | exact kD | skip) | skip)
     ·exact rowsM_at hg
     ·have h0 : 0 < k := by simpa [gd] using hgd
      rw [wrap_in (by omega) (by omega)]; omega
     ·have h0 : 0 < k := by simpa [gd] using hgd
      rw [wrap_in (by omega) (by omega), show ((k : Int) - 1).toNat = k - 1 by omega]
      exact rowsM_at (hz h0)
    have hn := noRise_eq (y := y) hz
    refine kC (fun hb => ?_) fun hb => ?_
    ·refine kW ?_
     refine AK.ret ⟨_, rfl, ?_⟩
     exact congrArg (AV.int _) (by rw [← hr, if_pos (hn.trans hb)])
    rw [if_neg (by rw [hn, hb]; decide)] at hr
    refine kW ?_
    refine kP [.c (.str y :: [.int .i64 (x).kind, .bool (x).b, .int .i64 (x).n, .str (x).s, .lst .any 6 (rowsV (x).l), .lst .any 7 (rowsM (x).m)]), .v (.int .i64 x.partsC)] ?_ ?_
    ·((repeat' apply And.intro) <;> first | exact kD | (intro hgd; refine ⟨?_, kG⟩; (repeat' apply And.intro) <;> first | exact kD | skip) | skip)
     ·exact rowsM_at hg
     ·exact ih x (by omega) (sb_m hsb hg).2 (by omega)
    refine kW ?_
    refine kC (fun hb => ?_) fun hb => ?_
    ·have he : x.partsC ≠ 0 := by simpa using hb
     rw [if_pos he] at hr
     refine kW ?_
     refine AK.ret ⟨_, rfl, ?_⟩
     exact congrArg (AV.int _) hr
    ·have he : ¬ x.partsC ≠ 0 := by simpa using hb
     rw [if_neg he] at hr
     refine kW ?_
     exact AK.lp ⟨k + 1, ⟨by omega, hr⟩, Weak.intro ⟨kI, kU, trivial⟩ ⟨kJ, trivial⟩ rfl rfl, by omega⟩
   ·have hlt : k = v.m.length := by have : v.m.length ≤ k := by simpa [rowsM_len] using hb
                                    omega
    subst hlt
    refine AK.exit rfl ?_
    refine kW ?_
    refine AK.ret ⟨_, rfl, ?_⟩
    exact congrArg (AV.int _) (by rw [← hr, List.drop_length]; rfl)
theorem refCheck_a (v : V) (hsb : v.sb) (hsz : v.size ≤ 2000000000000) : AC Tryz.prog 27 [.agg [.int .i64 (v).kind, .bool (v).b, .int .i64 (v).n, .str (v).s, .lst .any 6 (rowsV (v).l), .lst .any 7 (rowsM (v).m)]] (.int .i64 v.checkC) := by
 refine kE Tryz.func27 a_ref01_Check_ok a_ref01_Check_cb fun E hE => ?_
 refine kW ?_
 refine kP [.v (.int .i64 v.depth)] ?_ ?_
 ·((repeat' apply And.intro) <;> first | exact kD | (intro hgd; refine ⟨?_, kG⟩; (repeat' apply And.intro) <;> first | exact kD | skip) | skip)
  ·exact refDepth_a _ v (Nat.le_refl _) hsz
 refine kC (fun hb => ?_) fun hb => ?_
 ·have h1 : 16 < v.depth := by have : (16 : Int) < v.depth := by simpa using hb
                               omega
  refine kW ?_
  refine AK.ret ⟨_, rfl, ?_⟩
  exact congrArg (AV.int _) (by rw [V.checkC, if_pos h1])
 have h1 : ¬ 16 < v.depth := by have : (v.depth : Int) ≤ 16 := by simpa using hb
                                omega
 refine kW ?_
 refine kP [.v (.int .i64 v.size)] ?_ ?_
 ·((repeat' apply And.intro) <;> first | exact kD | (intro hgd; refine ⟨?_, kG⟩; (repeat' apply And.intro) <;> first | exact kD | skip) | skip)
  ·exact refSize_a _ v (Nat.le_refl _) hsz
 refine kC (fun hb => ?_) fun hb => ?_
 ·have h2 : 4096 < v.size := by have : (4096 : Int) < v.size := by simpa using hb
                                omega
  refine kW ?_
  refine AK.ret ⟨_, rfl, ?_⟩
  exact congrArg (AV.int _) (by rw [V.checkC, if_neg h1, if_pos h2])
 have h2 : ¬ 4096 < v.size := by have : (v.size : Int) ≤ 4096 := by simpa using hb
                                 omega
 refine kW ?_
 refine kP [.v (.int .i64 v.partsC)] ?_ ?_
 ·((repeat' apply And.intro) <;> first | exact kD | (intro hgd; refine ⟨?_, kG⟩; (repeat' apply And.intro) <;> first | exact kD | skip) | skip)
  ·exact refParts_a _ v (Nat.le_refl _) hsb hsz
 refine kW ?_
 refine AK.ret ⟨_, rfl, ?_⟩
 exact congrArg (AV.int _) (by rw [V.checkC, if_neg h1, if_neg h2])
theorem max_cast (a b : Nat) : (match decide ((b : Int) > (a : Int)) with | true => (b : Int) | false => (a : Int)) = ((max a b : Nat) : Int) := by
 by_cases h : a < b
 ·rw [decide_eq_true (by omega)]; show (b : Int) = _; omega
 ·rw [decide_eq_false (by omega)]; show (a : Int) = _; omega
theorem treeSize_a (n : Nat) : ∀ v : V, v.size ≤ n → v.size ≤ 2000000000000 → AC Tryz.prog 54 [.agg [.int .i64 (v).kind, .bool (v).b, .int .i64 (v).n, .str (v).s, .lst .any 6 (rowsV (v).l), .lst .any 7 (rowsM (v).m)]] (.int .i64 v.size) := by
 induction n with
 | zero => intro v h; have := v.size_pos; omega
 | succ n ih =>
  intro v hn hsz
  have hve := v.size_eq
  have hll := len_le_sizeL v.l
  have hlm := len_le_sizeM v.m
  refine kE Tryz.func54 a_tree_Size_ok a_tree_Size_cb fun E hE => ?_
  refine kW ?_
  refine AK.loopI (fun k : Nat => (frOf [(1, .ptr 1 0), (3, .int .i64 ((1 + sizeL (v.l.take k) : Nat) : Int)), (9, .lst .any 6 (rowsV v.l)), (10, .int .i64 (rowsV v.l).length), (11, .int .i64 k)], ⟨boxOf [(1, [.int .i64 (v).kind, .bool (v).b, .int .i64 (v).n, .str (v).s, .lst .any 6 (rowsV (v).l), .lst .any 7 (rowsM (v).m)], false)], fun _ => 0⟩)) (fun k => k ≤ v.l.length) (fun k => v.l.length - k) 0 (by omega) (Weak.intro ⟨kI, kI, kI, kI, kI, trivial⟩ ⟨kJ, trivial⟩ rfl rfl) fun k hk => ?_
  refine kW ?_
  refine kC (fun hb => ?_) fun hb => ?_
  ·have hlt : k < v.l.length := by simpa [rowsV_len] using hb
   obtain ⟨x, hg⟩ : ∃ x, v.l[k]? = some x := ⟨_, List.getElem?_eq_getElem hlt⟩
   have hx := sizeL_take hg
   have hx2 := sizeL_take_le v.l (k + 1)
   refine kW ?_
   refine kP [.c [.int .i64 (x).kind, .bool (x).b, .int .i64 (x).n, .str (x).s, .lst .any 6 (rowsV (x).l), .lst .any 7 (rowsM (x).m)]] ?_ ?_
   ·((repeat' apply And.intro) <;> first | exact kD | (intro hgd; refine ⟨?_, kG⟩; (repeat' apply And.intro) <;> first | exact kD | skip) | skip)
    ·exact rowsV_at hg
   refine kW ?_
   refine kP [.v (.int .i64 x.size)] ?_ ?_
   ·((repeat' apply And.intro) <;> first | exact kD | (intro hgd; refine ⟨?_, kG⟩; (repeat' apply And.intro) <;> first | exact kD | skip) | skip)
    ·exact ih x (by omega) (by omega)
   refine kW ?_
   exact AK.lp ⟨k + 1, by omega, Weak.intro ⟨kI, kU, kI, kI, kU, trivial⟩ ⟨kJ, trivial⟩ rfl rfl, by omega⟩
  ·have hlt : k = v.l.length := by have : v.l.length ≤ k := by simpa [rowsV_len] using hb
                                   omega
   subst hlt
   rw [List.take_length]
   refine AK.exit rfl ?_
   refine kW ?_
   refine AK.loopI (fun k : Nat => (frOf [(1, .ptr 1 0), (3, .int .i64 ((1 + sizeL v.l + sizeM (v.m.take k) : Nat) : Int)), (21, .lst .any 7 (rowsM v.m)), (22, .int .i64 (rowsM v.m).length), (23, .int .i64 k)], ⟨boxOf [(1, [.int .i64 (v).kind, .bool (v).b, .int .i64 (v).n, .str (v).s, .lst .any 6 (rowsV (v).l), .lst .any 7 (rowsM (v).m)], false)], fun _ => 0⟩)) (fun k => k ≤ v.m.length) (fun k => v.m.length - k) 0 (by omega) (Weak.intro ⟨kI, kI, kI, kI, kI, trivial⟩ ⟨kJ, trivial⟩ rfl rfl) fun k hk => ?_
   refine kW ?_
   refine kC (fun hb => ?_) fun hb => ?_
   ·have hlt : k < v.m.length := by simpa [rowsM_len] using hb
    obtain ⟨⟨y, x⟩, hg⟩ : ∃ x, v.m[k]? = some x := ⟨_, List.getElem?_eq_getElem hlt⟩
    have hx := sizeM_take hg
    have hx2 := sizeM_take_le v.m (k + 1)
    refine kW ?_
    refine kP [.c (.str y :: [.int .i64 (x).kind, .bool (x).b, .int .i64 (x).n, .str (x).s, .lst .any 6 (rowsV (x).l), .lst .any 7 (rowsM (x).m)])] ?_ ?_
    ·((repeat' apply And.intro) <;> first | exact kD | (intro hgd; refine ⟨?_, kG⟩; (repeat' apply And.intro) <;> first | exact kD | skip) | skip)
     ·exact rowsM_at hg
    refine kW ?_
    refine kP [.v (.int .i64 x.size)] ?_ ?_
    ·((repeat' apply And.intro) <;> first | exact kD | (intro hgd; refine ⟨?_, kG⟩; (repeat' apply And.intro) <;> first | exact kD | skip) | skip)
     ·exact ih x (by omega) (by omega)
    refine kW ?_
    exact AK.lp ⟨k + 1, by omega, Weak.intro ⟨kI, kU, kI, kI, kU, trivial⟩ ⟨kJ, trivial⟩ rfl rfl, by omega⟩
   ·have hlt : k = v.m.length := by have : v.m.length ≤ k := by simpa [rowsM_len] using hb
                                    omega
    subst hlt
    rw [List.take_length]
    refine AK.exit rfl ?_
    refine kW ?_
    refine AK.ret ⟨_, rfl, ?_⟩
    rw [hve]
    rfl
theorem treeDepth_a (n : Nat) : ∀ v : V, v.size ≤ n → v.size ≤ 2000000000000 → AC Tryz.prog 53 [.agg [.int .i64 (v).kind, .bool (v).b, .int .i64 (v).n, .str (v).s, .lst .any 6 (rowsV (v).l), .lst .any 7 (rowsM (v).m)]] (.int .i64 v.depth) := by
 induction n with
 | zero => intro v h; have := v.size_pos; omega
 | succ n ih =>
  intro v hn hsz
  have hve := v.size_eq
  have hde := v.depth_eq
  have hds := v.depth_le_size'
  have hll := len_le_sizeL v.l
  have hlm := len_le_sizeM v.m
  refine kE Tryz.func53 a_tree_Depth_ok a_tree_Depth_cb fun E hE => ?_
  refine kW ?_
  refine AK.loopI (fun k : Nat => (frOf [(1, .ptr 1 0), (3, .int .i64 (depthL (v.l.take k) : Nat)), (9, .lst .any 6 (rowsV v.l)), (10, .int .i64 (rowsV v.l).length), (11, .int .i64 k)], ⟨boxOf [(1, [.int .i64 (v).kind, .bool (v).b, .int .i64 (v).n, .str (v).s, .lst .any 6 (rowsV (v).l), .lst .any 7 (rowsM (v).m)], false)], fun _ => 0⟩)) (fun k => k ≤ v.l.length) (fun k => v.l.length - k) 0 (by omega) (Weak.intro ⟨kI, kI, kI, kI, kI, trivial⟩ ⟨kJ, trivial⟩ rfl rfl) fun k hk => ?_
  refine kW ?_
  refine kC (fun hb => ?_) fun hb => ?_
  ·have hlt : k < v.l.length := by simpa [rowsV_len] using hb
   obtain ⟨x, hg⟩ : ∃ x, v.l[k]? = some x := ⟨_, List.getElem?_eq_getElem hlt⟩
   have hx := sizeL_take hg
   have hx2 := sizeL_take_le v.l (k + 1)
   have hd := depthL_take hg
   refine kW ?_
   refine kP [.c [.int .i64 (x).kind, .bool (x).b, .int .i64 (x).n, .str (x).s, .lst .any 6 (rowsV (x).l), .lst .any 7 (rowsM (x).m)]] ?_ ?_
   ·((repeat' apply And.intro) <;> first | exact kD | (intro hgd; refine ⟨?_, kG⟩; (repeat' apply And.intro) <;> first | exact kD | skip) | skip)
    ·exact rowsV_at hg
   refine kW ?_
   refine kP [.v (.int .i64 x.depth)] ?_ ?_
   ·((repeat' apply And.intro) <;> first | exact kD | (intro hgd; refine ⟨?_, kG⟩; (repeat' apply And.intro) <;> first | exact kD | skip) | skip)
    ·exact ih x (by omega) (by omega)
   refine kW ?_
   refine AK.lp ⟨k + 1, by omega, Weak.intro ⟨kI, ⟨_, rfl, .of_eq (congrArg (AV.int _) ?_)⟩, kI, kI, kU, trivial⟩ ⟨kJ, trivial⟩ rfl rfl, by omega⟩
   exact (max_cast _ _).trans (by rw [hd])
  ·have hlt : k = v.l.length := by have : v.l.length ≤ k := by simpa [rowsV_len] using hb
                                   omega
   subst hlt
   rw [List.take_length]
   refine AK.exit rfl ?_
   refine kW ?_
   refine AK.loopI (fun k : Nat => (frOf [(1, .ptr 1 0), (3, .int .i64 (max (depthL v.l) (depthM (v.m.take k)) : Nat)), (21, .lst .any 7 (rowsM v.m)), (22, .int .i64 (rowsM v.m).length), (23, .int .i64 k)], ⟨boxOf [(1, [.int .i64 (v).kind, .bool (v).b, .int .i64 (v).n, .str (v).s, .lst .any 6 (rowsV (v).l), .lst .any 7 (rowsM (v).m)], false)], fun _ => 0⟩)) (fun k => k ≤ v.m.length) (fun k => v.m.length - k) 0 (by omega) (Weak.intro ⟨kI, ⟨_, rfl, .of_eq (by simp [depthM])⟩, kI, kI, kI, trivial⟩ ⟨kJ, trivial⟩ rfl rfl) fun k hk => ?_
   refine kW ?_
   refine kC (fun hb => ?_) fun hb => ?_
   ·have hlt : k < v.m.length := by simpa [rowsM_len] using hb
    obtain ⟨⟨y, x⟩, hg⟩ : ∃ x, v.m[k]? = some x := ⟨_, List.getElem?_eq_getElem hlt⟩
    have hx := sizeM_take hg
    have hx2 := sizeM_take_le v.m (k + 1)
    have hd := depthM_take hg
    refine kW ?_
    refine kP [.c (.str y :: [.int .i64 (x).kind, .bool (x).b, .int .i64 (x).n, .str (x).s, .lst .any 6 (rowsV (x).l), .lst .any 7 (rowsM (x).m)])] ?_ ?_
    ·((repeat' apply And.intro) <;> first | exact kD | (intro hgd; refine ⟨?_, kG⟩; (repeat' apply And.intro) <;> first | exact kD | skip) | skip)
     ·exact rowsM_at hg
    refine kW ?_
    refine kP [.v (.int .i64 x.depth)] ?_ ?_
    ·((repeat' apply And.intro) <;> first | exact kD | (intro hgd; refine ⟨?_, kG⟩; (repeat' apply And.intro) <;> first | exact kD | skip) | skip)
     ·exact ih x (by omega) (by omega)
    refine kW ?_
    refine AK.lp ⟨k + 1, by omega, Weak.intro ⟨kI, ⟨_, rfl, .of_eq (congrArg (AV.int _) ?_)⟩, kI, kI, kU, trivial⟩ ⟨kJ, trivial⟩ rfl rfl, by omega⟩
    exact (max_cast _ _).trans (congrArg Int.ofNat (by rw [hd]; omega))
   ·have hlt : k = v.m.length := by have : v.m.length ≤ k := by simpa [rowsM_len] using hb
                                    omega
    subst hlt
    rw [List.take_length]
    refine AK.exit rfl ?_
    refine kW ?_
    refine AK.ret ⟨_, rfl, ?_⟩
    rw [wrap_in (by omega) (by omega), hde]
    rfl
theorem treeText_a (s : ByteArray) (hs : s.size ≤ 140737488355328) : AC Tryz.prog 97 [.str s] (.bool (textB s)) := by
 refine kE Tryz.func97 a_tree_Text_ok a_tree_Text_cb fun E hE => ?_
 refine kW ?_
 refine AK.loopI (fun k : Nat => (frOf [(0, .str s), (6, .int .i64 s.size), (7, .int .i64 k)], ⟨boxOf [], fun _ => 0⟩)) (fun k => k ≤ s.size ∧ allTo okT s k) (fun k => s.size - k) 0 ⟨by omega, allTo_zero _ _⟩ (Weak.intro ⟨kI, kI, kI, trivial⟩ trivial rfl rfl) fun k ⟨hk, hno⟩ => ?_
 refine kW ?_
 refine kC (fun hb => ?_) fun hb => ?_
 ·have hlt : k < s.size := by simpa using hb
  refine kW ?_
  refine kQ [] ?_
  rw [show s.data.getD (k : Int).toNat 0 = s[k] from byte_at hlt]
  refine kW ?_
  refine kQ [] ?_
  refine kC (fun hb => ?_) fun hb => ?_
  ·refine kW ?_
   refine AK.ret ⟨_, rfl, ?_⟩
   have hf : okT s[k] = false := by
    simp only [Bool.or_eq_true, Bool.and_eq_true, Bool.not_eq_true', decide_eq_true_eq, decide_eq_false_iff_not] at hb
    simp only [okT, Bool.or_eq_false_iff, Bool.and_eq_false_iff, decide_eq_false_iff_not, beq_eq_false_iff_ne, ne_eq]
    omega
   rw [textB, allB_false hlt hf]
   rfl
  ·have ht : okT s[k] = true := by
    simp only [Bool.or_eq_false_iff, Bool.and_eq_false_iff, Bool.not_eq_false', decide_eq_true_eq, decide_eq_false_iff_not] at hb
    simp only [okT, Bool.or_eq_true, Bool.and_eq_true, decide_eq_true_eq, beq_iff_eq]
    omega
   refine kW ?_
   exact AK.lp ⟨k + 1, ⟨by omega, allTo_succ hno hlt ht⟩, Weak.intro ⟨kI, kI, kU, trivial⟩ trivial rfl rfl, by omega⟩
 ·have hlt : k = s.size := by have : s.size ≤ k := by simpa using hb
                              omega
  subst hlt
  refine AK.exit rfl ?_
  refine kW ?_
  refine AK.ret ⟨_, rfl, ?_⟩
  show AV.bool _ = AV.bool _
  refine congrArg AV.bool ?_
  rw [textB, allB_true hno, Bool.eq_iff_iff]
  simp
  try omega
theorem contains1_a (s : ByteArray) (c : UInt8) : AC Tryz.prog 124 [.str s, .str ⟨#[c]⟩] (.bool (decide (c ∈ s.data.toList))) := by
 refine ⟨by kernel_rfl, fun σ w vs hh hr hg => ?_⟩
 obtain ⟨v1, v2, rfl, h1, h2⟩ := two_args hr
 have h1 : Rel1 σ v1 (.str s) := h1
 have h2 : Rel1 σ v2 (.str ⟨#[c]⟩) := h2
 cases h1; cases h2
 refine (Tryz.strings_Contains_one s c w).mono ?_
 rintro e w' ⟨rfl, rfl⟩
 have e : decide (0 ≤ Lib.indexByte s.data.toList c) = decide (c ∈ s.data.toList) := by
  rcases ix_cases s.data.toList c with ⟨h1, h2⟩ | ⟨i, h1, h2, h3, h4⟩
  ·rw [h1, decide_eq_false h2]; rfl
  ·rw [h1, decide_eq_true (show 0 ≤ (i : Int) by omega), decide_eq_true (List.mem_of_getElem? h3)]
 rw [e]
 exact ⟨σ, _, rfl, Ext.refl _ _, hh, Below.refl _ _, .bool _⟩
theorem key_eq (s : ByteArray) : keyB s = ((decide (1 ≤ s.size) && decide (s.size ≤ 256)) && textB s && !decide (10 ∈ s.data.toList) && !decide (9 ∈ s.data.toList)) := by
 rw [Bool.eq_iff_iff]
 simp only [keyB, textB, allB, Bool.and_eq_true, Bool.not_eq_true', decide_eq_true_eq, decide_eq_false_iff_not, List.all_eq_true]
 constructor
 ·rintro ⟨h1, h2, h3⟩
  refine ⟨⟨⟨⟨h2, h3⟩, fun x hx => ?_, by omega⟩, fun hm => ?_⟩, fun hm => ?_⟩
  ·have := h1 x hx
   simp only [okK, Bool.and_eq_true, decide_eq_true_eq] at this
   simp [okT, this]
  ·have := h1 _ hm
   exact absurd this (by decide)
  ·have := h1 _ hm
   exact absurd this (by decide)
 ·rintro ⟨⟨⟨⟨h2, h3⟩, h1, _⟩, h10⟩, h9⟩
  refine ⟨fun x hx => ?_, h2, h3⟩
  have := h1 x hx
  simp only [okT, Bool.or_eq_true, Bool.and_eq_true, decide_eq_true_eq, beq_iff_eq] at this
  simp only [okK, Bool.and_eq_true, decide_eq_true_eq]
  rcases this with (h | h) | h
  ·exact h
  ·exact absurd (show (9 : UInt8) ∈ s.data.toList by rw [← show x = 9 from UInt8.toNat_inj.1 h]; exact hx) h9
  ·exact absurd (show (10 : UInt8) ∈ s.data.toList by rw [← show x = 10 from UInt8.toNat_inj.1 h]; exact hx) h10
theorem treeKey_a (s : ByteArray) (hs : s.size ≤ 140737488355328) : AC Tryz.prog 98 [.str s] (.bool (keyB s)) := by
 have h1 := treeText_a s hs
 have h2 := contains1_a s 10
 have h3 := contains1_a s 9
 refine kE Tryz.func98 a_tree_Key_ok a_tree_Key_cb fun E hE => ?_
 refine kW ?_
 refine kQ [.v (.bool (textB s)), .v (.bool (decide (10 ∈ s.data.toList))), .v (.bool (decide (9 ∈ s.data.toList)))] ?_
 refine kW ?_
 refine AK.ret ⟨_, rfl, ?_⟩
 refine congrArg AV.bool ?_
 rw [key_eq]
 have hz := sz0 s
 by_cases h0 : s.size = 0
 ·have := hz.2 h0
  subst this
  rfl
 ·have hn : ¬ s = ⟨#[]⟩ := fun e => h0 (hz.1 e)
  have h1' : 1 ≤ s.size := by omega
  have h256 : decide ((s.size : Int) ≤ 256) = decide (s.size ≤ 256) := by rw [Bool.eq_iff_iff]; simp; omega
  rw [decide_eq_false hn, decide_eq_true h1', h256]
  rfl
end Go.Proofs.YtgekcnpfflhpkaaGreatDoor
/-
 tree.bare, walked.
-/
namespace Go.Proofs.YtgekcnpfflhpkaaGreatDoor
open Go.RowKit
theorem run_idx6 (cs : Array Value) (j : Nat) (b : Bool) (hj : j < 6) (hu : cs[j]? = some (.bool b)) (w : World) : (Instr.index 134 (.agg cs) (.int .i64 j)).run Tryz.prog w = .ok (.bool b) w := by
 have h1 : ((j : Int) < 6) := by omega
 have h2 : ¬ 6 ≤ j := by omega
 simp [Instr.index, asIntOf, run_underlying Tryz.underlying134, h1, part, Tryz.isAgg4, Tryz.sizeOf4, hu, h2]
theorem wpList_index_arr {P : Program} {ops : Array Oper} {rest : List Oper} {tmps : Array Value} {df : List Deferred} {w : World} {Q : Exit → Act → World → Prop} {d : Option Tmp} {ty0 : TypeId} {ps : String} {af : Array Edge}
  (p q : Tmp) (ty : TypeId) (cs : Array Value) (i u : Value) (hp : tmps.getD p undef = .agg cs) (hq : tmps.getD q undef = i) (hrun : (Instr.index ty (.agg cs) i).run P w = .ok u w)
  (h : wpList P ops Q rest (({ tmps := tmps, defers := df } : Act).put d u) w) :
  wpList P ops Q ({ dst := d, op := .index ty (.tmp p) (.tmp q), type := ty0, pos := ps, after := af, guard := none } :: rest) { tmps := tmps, defers := df } w := by
 refine wpList_plain rfl fun K hK => ?_
 have e1 : ({ tmps := tmps, defers := df } : Act).eval (.tmp p) = .agg cs := hp
 have e2 : ({ tmps := tmps, defers := df } : Act).eval (.tmp q) = i := hq
 unfold Oper.wp execOp
 simp only [e1, e2, Sem.run_bind, Sem.run_pure, Result.andThen_ok, hrun]
 exact hK _ _ h
def kbAt (kind : Int) (b1 b2 b3 b4 b5 : Bool) (k : Nat) : Bool := (match k with | 1 => b1 | 2 => b2 | 3 => b3 | 4 => b4 | 5 => b5 | _ => false) && decide ((k : Int) ≠ kind)
def kbTo (kind : Int) (b1 b2 b3 b4 b5 : Bool) : Nat → Bool
 | 0 => true
 | k + 1 => kbTo kind b1 b2 b3 b4 b5 k && !kbAt kind b1 b2 b3 b4 b5 k
theorem kbTo_le {kind : Int} {b1 b2 b3 b4 b5 : Bool} {k : Nat} (h : kbAt kind b1 b2 b3 b4 b5 k = true) (n : Nat) : kbTo kind b1 b2 b3 b4 b5 (k + 1 + n) = false := by
 induction n with
 | zero => rw [Nat.add_zero, kbTo, h]; simp
 | succ n ih => rw [← Nat.add_assoc, kbTo, ih]; rfl
theorem kbTo_six (kind : Int) (b1 b2 b3 b4 b5 : Bool) : kbTo kind b1 b2 b3 b4 b5 6 = (!(b1 && decide ((1 : Int) ≠ kind)) && !(b2 && decide ((2 : Int) ≠ kind)) && !(b3 && decide ((3 : Int) ≠ kind)) && !(b4 && decide ((4 : Int) ≠ kind)) && !(b5 && decide ((5 : Int) ≠ kind))) := by
 simp only [kbTo, kbAt, Bool.true_and, Bool.false_and, Bool.not_false]
 rfl
set_option maxHeartbeats 4000000 in
set_option maxRecDepth 100000 in
theorem bare_any0 (kind : Int) (b : Bool) (n : Int) (s : ByteArray) (A1 A2 : Option Addr) (l m c1 c2 : Nat) (w : World) :
  Calls Tryz.prog 96 #[.agg #[.int .i64 kind, .bool b, .int .i64 n, .string s, .slice A1 l c1, .slice A2 m c2]] w fun e w' => e = .returned (.bool (kbTo kind b (n != 0) (!s.toList.isEmpty) (decide (0 < l)) (decide (0 < m)) 6 && (decide (0 ≤ kind) && decide (kind ≤ 5)))) ∧ Below w.heap.size w w' := by
 obtain ⟨R, hR⟩ : ∃ R, (kbTo kind b (n != 0) (!s.toList.isEmpty) (decide (0 < l)) (decide (0 < m)) 6 && (decide (0 ≤ kind) && decide (kind ≤ 5))) = R := ⟨_, rfl⟩
 rw [hR]
 go_enter Tryz.func96, Tryz.ntmps96
 go_wp2_with fail
 generalize (n != 0) = b2 at hR ⊢
 generalize (!s.toList.isEmpty) = b3 at hR ⊢
 generalize (decide (0 < l)) = b4 at hR ⊢
 generalize (decide (0 < m)) = b5 at hR ⊢
 have HR := Lib.hid hR
 clear hR
 obtain ⟨W, hW⟩ : ∃ W : World, W = (w.alloc (.cells #[.int .i64 kind, .bool b, .int .i64 n, .string s, .slice A1 l c1, .slice A2 m c2] 28)).alloc (.cells #[.bool false, .bool b, .bool b2, .bool b3, .bool b4, .bool b5] 134) := ⟨_, rfl⟩
 have k0 : W.cell? ⟨w.heap.size, 0, none⟩ = some (.int .i64 kind) := by
  rw [hW, World.cell?_alloc_lt _ _ _ (by simp), World.cell?_alloc_at _ _ _ _ rfl]; rfl
 have hbW : Below w.heap.size w W := by
  rw [hW]; exact ((Below.refl _ _).alloc (Nat.le_refl _) _).alloc (by simp) _
 rw [← hW]
 have HB := Lib.hid hbW
 clear hW hbW
 go_loopw [24] (fun i wr => ∃ k : Nat, k ≤ 6 ∧ i = .int .i64 k ∧ wr = W ∧ Hid (kbTo kind b b2 b3 b4 b5 k = true)) (fun i _ => 6 - (intOf i).toNat)
 case atStart => exact ⟨0, by omega, rfl, rfl, Lib.hid rfl⟩
 case round =>
  obtain ⟨k, hk, rfl, rfl, hT⟩ := hrel
  have hT' := hT.out
  clear hT
  have hcs : k = 0 ∨ k = 1 ∨ k = 2 ∨ k = 3 ∨ k = 4 ∨ k = 5 ∨ k = 6 := by omega
  have hst : k < 6 → kbAt kind b b2 b3 b4 b5 k = false → Hid (kbTo kind b b2 b3 b4 b5 (k + 1) = true) := fun _ h => Lib.hid (by rw [kbTo, hT', h]; rfl)
  have hbad : k < 6 → kbAt kind b b2 b3 b4 b5 k = true → R = false := fun h1 h => by
   rw [← HR.out]
   have := kbTo_le h (5 - k)
   rw [show k + 1 + (5 - k) = 6 by omega] at this
   rw [this]; rfl
  rcases hcs with rfl | rfl | rfl | rfl | rfl | rfl | rfl
  ·have H := hst (by omega) rfl
   clear hst hbad hT'
   go_wp2_with (refine wpList_index_arr 23 24 134 _ _ (.bool false) rfl rfl (run_idx6 _ 0 false (by omega) rfl _) ?_)
   go_roundw
   case rel => exact ⟨1, by omega, by go_num, trivial, H⟩
   case measure => simp [intOf]
  ·cases b with
   | false =>
    have H := hst (by omega) rfl
    clear hst hbad hT'
    go_wp2_with (refine wpList_index_arr 23 24 134 _ _ (.bool false) rfl rfl (run_idx6 _ 1 false (by omega) rfl _) ?_)
    go_roundw
    case rel => exact ⟨2, by omega, by go_num, trivial, H⟩
    case measure => simp [intOf]
   | true =>
    by_cases hkd : (1 : Int) = kind
    ·have H := hst (by omega) (by rw [kbAt]; simp [hkd])
     have hkd' : ((1 : Int) != kind) = false := by simp [hkd]
     clear hst hbad hT' hkd
     go_wp2_with (refine wpList_index_arr 23 24 134 _ _ (.bool true) rfl rfl (run_idx6 _ 1 true (by omega) rfl _) ?_)
     go_roundw
     case rel => exact ⟨2, by omega, by go_num, trivial, H⟩
     case measure => simp [intOf]
    ·have H := hbad (by omega) (by rw [kbAt]; simp [hkd])
     have hkd' : ((1 : Int) != kind) = true := by simp [hkd]
     clear hst hbad hT' hkd
     go_wp2_with (refine wpList_index_arr 23 24 134 _ _ (.bool true) rfl rfl (run_idx6 _ 1 true (by omega) rfl _) ?_)
     go_ret
     exact ⟨by rw [H]; rfl, HB.out⟩
  ·cases b2 with
   | false =>
    have H := hst (by omega) rfl
    clear hst hbad hT'
    go_wp2_with (refine wpList_index_arr 23 24 134 _ _ (.bool false) rfl rfl (run_idx6 _ 2 false (by omega) rfl _) ?_)
    go_roundw
    case rel => exact ⟨3, by omega, by go_num, trivial, H⟩
    case measure => simp [intOf]
   | true =>
    by_cases hkd : (2 : Int) = kind
    ·have H := hst (by omega) (by rw [kbAt]; simp [hkd])
     have hkd' : ((2 : Int) != kind) = false := by simp [hkd]
     clear hst hbad hT' hkd
     go_wp2_with (refine wpList_index_arr 23 24 134 _ _ (.bool true) rfl rfl (run_idx6 _ 2 true (by omega) rfl _) ?_)
     go_roundw
     case rel => exact ⟨3, by omega, by go_num, trivial, H⟩
     case measure => simp [intOf]
    ·have H := hbad (by omega) (by rw [kbAt]; simp [hkd])
     have hkd' : ((2 : Int) != kind) = true := by simp [hkd]
     clear hst hbad hT' hkd
     go_wp2_with (refine wpList_index_arr 23 24 134 _ _ (.bool true) rfl rfl (run_idx6 _ 2 true (by omega) rfl _) ?_)
     go_ret
     exact ⟨by rw [H]; rfl, HB.out⟩
  ·cases b3 with
   | false =>
    have H := hst (by omega) rfl
    clear hst hbad hT'
    go_wp2_with (refine wpList_index_arr 23 24 134 _ _ (.bool false) rfl rfl (run_idx6 _ 3 false (by omega) rfl _) ?_)
    go_roundw
    case rel => exact ⟨4, by omega, by go_num, trivial, H⟩
    case measure => simp [intOf]
   | true =>
    by_cases hkd : (3 : Int) = kind
    ·have H := hst (by omega) (by rw [kbAt]; simp [hkd])
     have hkd' : ((3 : Int) != kind) = false := by simp [hkd]
     clear hst hbad hT' hkd
     go_wp2_with (refine wpList_index_arr 23 24 134 _ _ (.bool true) rfl rfl (run_idx6 _ 3 true (by omega) rfl _) ?_)
     go_roundw
     case rel => exact ⟨4, by omega, by go_num, trivial, H⟩
     case measure => simp [intOf]
    ·have H := hbad (by omega) (by rw [kbAt]; simp [hkd])
     have hkd' : ((3 : Int) != kind) = true := by simp [hkd]
     clear hst hbad hT' hkd
     go_wp2_with (refine wpList_index_arr 23 24 134 _ _ (.bool true) rfl rfl (run_idx6 _ 3 true (by omega) rfl _) ?_)
     go_ret
     exact ⟨by rw [H]; rfl, HB.out⟩
  ·cases b4 with
   | false =>
    have H := hst (by omega) rfl
    clear hst hbad hT'
    go_wp2_with (refine wpList_index_arr 23 24 134 _ _ (.bool false) rfl rfl (run_idx6 _ 4 false (by omega) rfl _) ?_)
    go_roundw
    case rel => exact ⟨5, by omega, by go_num, trivial, H⟩
    case measure => simp [intOf]
   | true =>
    by_cases hkd : (4 : Int) = kind
    ·have H := hst (by omega) (by rw [kbAt]; simp [hkd])
     have hkd' : ((4 : Int) != kind) = false := by simp [hkd]
     clear hst hbad hT' hkd
     go_wp2_with (refine wpList_index_arr 23 24 134 _ _ (.bool true) rfl rfl (run_idx6 _ 4 true (by omega) rfl _) ?_)
     go_roundw
     case rel => exact ⟨5, by omega, by go_num, trivial, H⟩
     case measure => simp [intOf]
    ·have H := hbad (by omega) (by rw [kbAt]; simp [hkd])
     have hkd' : ((4 : Int) != kind) = true := by simp [hkd]
     clear hst hbad hT' hkd
     go_wp2_with (refine wpList_index_arr 23 24 134 _ _ (.bool true) rfl rfl (run_idx6 _ 4 true (by omega) rfl _) ?_)
     go_ret
     exact ⟨by rw [H]; rfl, HB.out⟩
  ·cases b5 with
   | false =>
    have H := hst (by omega) rfl
    clear hst hbad hT'
    go_wp2_with (refine wpList_index_arr 23 24 134 _ _ (.bool false) rfl rfl (run_idx6 _ 5 false (by omega) rfl _) ?_)
    go_roundw
    case rel => exact ⟨6, by omega, by go_num, trivial, H⟩
    case measure => simp [intOf]
   | true =>
    by_cases hkd : (5 : Int) = kind
    ·have H := hst (by omega) (by rw [kbAt]; simp [hkd])
     have hkd' : ((5 : Int) != kind) = false := by simp [hkd]
     clear hst hbad hT' hkd
     go_wp2_with (refine wpList_index_arr 23 24 134 _ _ (.bool true) rfl rfl (run_idx6 _ 5 true (by omega) rfl _) ?_)
     go_roundw
     case rel => exact ⟨6, by omega, by go_num, trivial, H⟩
     case measure => simp [intOf]
    ·have H := hbad (by omega) (by rw [kbAt]; simp [hkd])
     have hkd' : ((5 : Int) != kind) = true := by simp [hkd]
     clear hst hbad hT' hkd
     go_wp2_with (refine wpList_index_arr 23 24 134 _ _ (.bool true) rfl rfl (run_idx6 _ 5 true (by omega) rfl _) ?_)
     go_ret
     exact ⟨by rw [H]; rfl, HB.out⟩
  ·have hR2 := HR.out
   rw [hT', Bool.true_and] at hR2
   clear hst hbad hT' HR
   by_cases h0 : 0 ≤ kind
   ·by_cases h5 : kind ≤ 5
    ·have hRt : R = true := by rw [← hR2]; simp [h0, h5]
     clear hR2
     go_wp2
     go_ret
     exact ⟨by first | rfl | (rw [hRt]; rfl), HB.out⟩
    ·have hRf : R = false := by rw [← hR2]; simp [h5]
     clear hR2
     go_wp2
     go_ret
     exact ⟨by first | rfl | (rw [hRf]; rfl), HB.out⟩
   ·have hRf : R = false := by rw [← hR2]; simp [h0]
    clear hR2
    go_wp2
    go_ret
    exact ⟨by first | rfl | (rw [hRf]; rfl), HB.out⟩
theorem bare_kbad (kind : Int) (b : Bool) (n : Int) (s : ByteArray) (l m : Nat) : (kbTo kind b (n != 0) (!s.toList.isEmpty) (decide (0 < l)) (decide (0 < m)) 6 && (decide (0 ≤ kind) && decide (kind ≤ 5))) = !kbad kind b n s l m := by
 have hs : (!s.toList.isEmpty) = decide (s ≠ noBytes) := by
  by_cases h : s = noBytes
  ·subst h
   rw [show noBytes.toList = [] from Lib.toList_data _]
   simp
  ·rw [decide_eq_true h]
   have hz : ¬ s.size = 0 := fun e => h ((sz0 s).2 e)
   cases hl : s.toList with
   | nil =>
    exfalso
    rw [Lib.toList_data] at hl
    have : s.data.toList.length = s.size := rfl
    rw [hl] at this
    exact hz this.symm
   | cons a l => rfl
 rw [kbTo_six, hs]
 unfold kbad
 rw [Bool.eq_iff_iff]
 simp only [Bool.and_eq_true, Bool.not_eq_true', Bool.and_eq_false_iff, Bool.or_eq_false_iff, decide_eq_true_eq, decide_eq_false_iff_not, bne_iff_ne, ne_eq, bne_eq_false_iff_eq, Decidable.not_not, Nat.not_lt, Int.not_lt]
 constructor
 ·rintro ⟨⟨⟨⟨⟨h1, h2⟩, h3⟩, h4⟩, h5⟩, h0, h6⟩
  exact ⟨⟨⟨⟨⟨⟨h0, h6⟩, h1.symm.imp (fun e => e.symm) id⟩, h2.symm.imp (fun e => e.symm) id⟩, h3.symm.imp (fun e => e.symm) id⟩, h4.symm.imp (fun e => e.symm) id⟩, h5.symm.imp (fun e => e.symm) id⟩
 ·rintro ⟨⟨⟨⟨⟨⟨h0, h6⟩, h1⟩, h2⟩, h3⟩, h4⟩, h5⟩
  exact ⟨⟨⟨⟨⟨h1.symm.imp id (fun e => e.symm), h2.symm.imp id (fun e => e.symm)⟩, h3.symm.imp id (fun e => e.symm)⟩, h4.symm.imp id (fun e => e.symm)⟩, h5.symm.imp id (fun e => e.symm)⟩, h0, h6⟩
theorem tbare_a (v : V) : AC Tryz.prog 96 [.agg [.int .i64 (v).kind, .bool (v).b, .int .i64 (v).n, .str (v).s, .lst .any 6 (rowsV (v).l), .lst .any 7 (rowsM (v).m)]] (.bool (!kbad v.kind v.b v.n v.s v.l.length v.m.length)) := by
 refine ⟨by kernel_rfl, fun σ w vs hh hr hg => ?_⟩
 obtain ⟨v1, rfl⟩ := List.length_eq_one_iff.1 hr.1
 have h1 : RelP σ v1 (.agg [.int .i64 (v).kind, .bool (v).b, .int .i64 (v).n, .str (v).s, .lst .any 6 (rowsV (v).l), .lst .any 7 (rowsM (v).m)]) := hr.2 0 v1 _ rfl rfl
 obtain ⟨cs, rfl, hcs⟩ := h1
 have hlen := hcs.1
 obtain ⟨x1, x2, x3, x4, x5, x6, rfl⟩ : ∃ a b c d e f, cs = [a, b, c, d, e, f] := by
  rcases cs with _ | ⟨a, _ | ⟨b, _ | ⟨c, _ | ⟨d, _ | ⟨e, _ | ⟨f, _ | ⟨g, l⟩⟩⟩⟩⟩⟩⟩ <;> simp at hlen
  exact ⟨a, b, c, d, e, f, rfl⟩
 have r0 := hcs.2 0 x1 (.int .i64 v.kind) rfl rfl
 have r1 := hcs.2 1 x2 (.bool v.b) rfl rfl
 have r2 := hcs.2 2 x3 (.int .i64 v.n) rfl rfl
 have r3 := hcs.2 3 x4 (.str v.s) rfl rfl
 have r4 := hcs.2 4 x5 (.lst .any 6 (rowsV v.l)) rfl rfl
 have r5 := hcs.2 5 x6 (.lst .any 7 (rowsM v.m)) rfl rfl
 cases r0; cases r1; cases r2; cases r3
 obtain ⟨A1, c1, b1, o1, n1, rfl, _⟩ := lst_cells r4
 obtain ⟨A2, c2, b2, o2, n2, rfl, _⟩ := lst_cells r5
 have h := bare_any0 v.kind v.b v.n v.s A1 A2 (rowsV v.l).length (rowsM v.m).length c1 c2 w
 rw [bare_kbad, rowsV_len, rowsM_len] at h
 rw [rowsV_len, rowsM_len]
 refine h.mono ?_
 rintro e w' ⟨rfl, hb⟩
 exact ⟨σ, _, rfl, Ext.refl _ _, fun b q v hv => (hb.cell (p := ⟨b, q, none⟩) (World.block_lt_of_cell? w _ (hh _ _ _ hv))).trans (hh _ _ _ hv), hb, .bool _⟩
theorem noRise_ge {m : List (ByteArray × V)} {k : Nat} {y z : ByteArray} {x' : V} (hz : 0 < k → m[k - 1]? = some (z, x')) : noRise (prevK m k) y = (decide ((k : Int) > 0) && !Op.bytesLess z.toList y.toList) := by
 cases k with
 | zero => simp [prevK, noRise]
 | succ k =>
  have := hz (by omega)
  simp only [Nat.add_sub_cancel] at this
  have e : decide (((k + 1 : Nat) : Int) > 0) = true := decide_eq_true (by omega)
  rw [prevK, this, e]; simp [noRise]
set_option maxRecDepth 4000 in
theorem treeParts_a (n : Nat) : ∀ v : V, v.size ≤ n → v.sb → v.size ≤ 2000000000000 → AC Tryz.prog 55 [.agg [.int .i64 (v).kind, .bool (v).b, .int .i64 (v).n, .str (v).s, .lst .any 6 (rowsV (v).l), .lst .any 7 (rowsM (v).m)]] (.int .i64 v.partsC) := by
 induction n with
 | zero => intro v h; have := v.size_pos; omega
 | succ n ih =>
  intro v hn hsb hsz
  have hve := v.size_eq
  have hll := len_le_sizeL v.l
  have hlm := len_le_sizeM v.m
  refine kE Tryz.func55 a_tree_parts_ok a_tree_parts_cb fun E hE => ?_
  refine kW ?_
  refine kP [.v (.bool (!kbad v.kind v.b v.n v.s v.l.length v.m.length))] ?_ ?_
  ·((repeat' apply And.intro) <;> first | exact kD | (intro hgd; refine ⟨?_, kG⟩; (repeat' apply And.intro) <;> first | exact kD | skip) | skip)
   ·exact tbare_a v
  refine kC (fun hb => ?_) fun hb => ?_
  ·refine kW ?_
   refine AK.ret ⟨_, rfl, ?_⟩
   exact congrArg (AV.int _) (partsC_kind (by simpa using hb)).symm
  have hk0 : kbad v.kind v.b v.n v.s v.l.length v.m.length = false := by simpa using hb
  refine kW ?_
  refine kP [.v (.bool (textB v.s))] ?_ ?_
  ·((repeat' apply And.intro) <;> first | exact kD | (intro hgd; refine ⟨?_, kG⟩; (repeat' apply And.intro) <;> first | exact kD | skip) | skip)
   ·exact treeText_a _ (sb_s hsb)
  refine kC (fun hb => ?_) fun hb => ?_
  ·refine kW ?_
   refine AK.ret ⟨_, rfl, ?_⟩
   exact congrArg (AV.int _) (partsC_text hk0 (by simpa using hb)).symm
  have ht0 : textB v.s = true := by simpa using hb
  refine kW ?_
  refine AK.loopI (fun k : Nat => (frOf [(1, .ptr 1 0), (19, .lst .any 6 (rowsV v.l)), (20, .int .i64 (rowsV v.l).length), (21, .int .i64 k)], ⟨boxOf [(1, [.int .i64 (v).kind, .bool (v).b, .int .i64 (v).n, .str (v).s, .lst .any 6 (rowsV (v).l), .lst .any 7 (rowsM (v).m)], false)], fun _ => 0⟩)) (fun k => k ≤ v.l.length ∧ partsL (v.l.drop k) = partsL v.l) (fun k => v.l.length - k) 0 ⟨by omega, rfl⟩ (Weak.intro ⟨kI, kI, kI, kI, trivial⟩ ⟨kJ, trivial⟩ rfl rfl) fun k ⟨hk, hr⟩ => ?_
  refine kW ?_
  refine kC (fun hb => ?_) fun hb => ?_
  ·have hlt : k < v.l.length := by simpa [rowsV_len] using hb
   obtain ⟨x, hg⟩ : ∃ x, v.l[k]? = some x := ⟨_, List.getElem?_eq_getElem hlt⟩
   have hx := sizeL_take hg
   have hx2 := sizeL_take_le v.l (k + 1)
   rw [partsL_drop hg] at hr
   refine kW ?_
   refine kP [.c [.int .i64 (x).kind, .bool (x).b, .int .i64 (x).n, .str (x).s, .lst .any 6 (rowsV (x).l), .lst .any 7 (rowsM (x).m)]] ?_ ?_
   ·((repeat' apply And.intro) <;> first | exact kD | (intro hgd; refine ⟨?_, kG⟩; (repeat' apply And.intro) <;> first | exact kD | skip) | skip)
    ·exact rowsV_at hg
   refine kW ?_
   refine kP [.v (.int .i64 x.partsC)] ?_ ?_
   ·((repeat' apply And.intro) <;> first | exact kD | (intro hgd; refine ⟨?_, kG⟩; (repeat' apply And.intro) <;> first | exact kD | skip) | skip)
    ·exact ih x (by omega) (sb_l hsb hg) (by omega)
   refine kW ?_
   refine kC (fun hb => ?_) fun hb => ?_
   ·have he : x.partsC ≠ 0 := by simpa using hb
    rw [if_pos he] at hr
    refine kW ?_
    refine AK.ret ⟨_, rfl, ?_⟩
    exact congrArg (AV.int _) (by rw [partsC_list hk0 ht0 (by rw [← hr]; exact he)]; exact hr)
   ·have he : ¬ x.partsC ≠ 0 := by simpa using hb
    rw [if_neg he] at hr
    refine kW ?_
    exact AK.lp ⟨k + 1, ⟨by omega, hr⟩, Weak.intro ⟨kI, kI, kI, kU, trivial⟩ ⟨kJ, trivial⟩ rfl rfl, by omega⟩
  ·have hlt : k = v.l.length := by have : v.l.length ≤ k := by simpa [rowsV_len] using hb
                                   omega
   subst hlt
   have hl0 : partsL v.l = 0 := by rw [← hr, List.drop_length]; rfl
   clear hr
   refine AK.exit rfl ?_
   refine kW ?_
   refine AK.loopI (fun k : Nat => (frOf [(1, .ptr 1 0), (32, .lst .any 7 (rowsM v.m)), (33, .int .i64 (rowsM v.m).length), (34, .int .i64 k)], ⟨boxOf [(1, [.int .i64 (v).kind, .bool (v).b, .int .i64 (v).n, .str (v).s, .lst .any 6 (rowsV (v).l), .lst .any 7 (rowsM (v).m)], false)], fun _ => 0⟩)) (fun k => k ≤ v.m.length ∧ partsM (prevK v.m k) (v.m.drop k) = v.partsC) (fun k => v.m.length - k) 0 ⟨by omega, (partsC_map hk0 ht0 hl0).symm⟩ (Weak.intro ⟨kI, kI, kI, kI, trivial⟩ ⟨kJ, trivial⟩ rfl rfl) fun k ⟨hk, hr⟩ => ?_
   refine kW ?_
   refine kC (fun hb => ?_) fun hb => ?_
   ·have hlt : k < v.m.length := by simpa [rowsM_len] using hb
    obtain ⟨⟨y, x⟩, hg⟩ : ∃ x, v.m[k]? = some x := ⟨_, List.getElem?_eq_getElem hlt⟩
    obtain ⟨z, x', hz⟩ : ∃ z x', 0 < k → v.m[k - 1]? = some (z, x') := by
     by_cases h0 : 0 < k
     ·exact ⟨(v.m[k - 1]'(by omega)).1, (v.m[k - 1]'(by omega)).2, fun _ => List.getElem?_eq_getElem (by omega)⟩
     ·exact ⟨y, x, fun h => absurd h h0⟩
    have hx := sizeM_take hg
    have hx2 := sizeM_take_le v.m (k + 1)
    rw [partsM_drop hg] at hr
    refine kW ?_
    refine kP [.c (.str y :: [.int .i64 (x).kind, .bool (x).b, .int .i64 (x).n, .str (x).s, .lst .any 6 (rowsV (x).l), .lst .any 7 (rowsM (x).m)])] ?_ ?_
    ·((repeat' apply And.intro) <;> first | exact kD | (intro hgd; refine ⟨?_, kG⟩; (repeat' apply And.intro) <;> first | exact kD | skip) | skip)
     ·exact rowsM_at hg
    refine kW ?_
    refine kP [.v (.bool (keyB y))] ?_ ?_
    ·((repeat' apply And.intro) <;> first | exact kD | (intro hgd; refine ⟨?_, kG⟩; (repeat' apply And.intro) <;> first | exact kD | skip) | skip)
     ·exact treeKey_a _ (sb_m hsb hg).1
    refine kC (fun hb => ?_) fun hb => ?_
    ·refine kW ?_
     refine AK.ret ⟨_, rfl, ?_⟩
     exact congrArg (AV.int _) (by rw [← hr, if_pos (by simpa using hb)])
    rw [if_neg (by simpa using hb)] at hr
    refine kW ?_
    refine kP [.c (.str z :: [.int .i64 (x').kind, .bool (x').b, .int .i64 (x').n, .str (x').s, .lst .any 6 (rowsV (x').l), .lst .any 7 (rowsM (x').m)])] ?_ ?_
    ·((repeat' apply And.intro) <;> first | exact kD | (intro hgd; refine ⟨?_, kG⟩; (repeat' apply And.intro) <;> first | exact kD | skip) | skip)
     ·have h0 : 0 < k := by simpa [gd] using hgd
      rw [wrap_in (by omega) (by omega)]; omega
     ·have h0 : 0 < k := by simpa [gd] using hgd
      rw [wrap_in (by omega) (by omega), show ((k : Int) - 1).toNat = k - 1 by omega]
      exact rowsM_at (hz h0)
    have hn := noRise_ge (y := y) hz
    refine kC (fun hb => ?_) fun hb => ?_
    ·refine kW ?_
     refine AK.ret ⟨_, rfl, ?_⟩
     exact congrArg (AV.int _) (by rw [← hr, if_pos (hn.trans hb)])
    rw [if_neg (by rw [hn, hb]; decide)] at hr
    refine kW ?_
    refine kP [.v (.int .i64 x.partsC)] ?_ ?_
    ·((repeat' apply And.intro) <;> first | exact kD | (intro hgd; refine ⟨?_, kG⟩; (repeat' apply And.intro) <;> first | exact kD | skip) | skip)
     ·exact ih x (by omega) (sb_m hsb hg).2 (by omega)
    refine kW ?_
    refine kC (fun hb => ?_) fun hb => ?_
    ·have he : x.partsC ≠ 0 := by simpa using hb
     rw [if_pos he] at hr
     refine kW ?_
     refine AK.ret ⟨_, rfl, ?_⟩
     exact congrArg (AV.int _) hr
    ·have he : ¬ x.partsC ≠ 0 := by simpa using hb
     rw [if_neg he] at hr
     refine kW ?_
     exact AK.lp ⟨k + 1, ⟨by omega, hr⟩, Weak.intro ⟨kI, kI, kI, kU, trivial⟩ ⟨kJ, trivial⟩ rfl rfl, by omega⟩
   ·have hlt : k = v.m.length := by have : v.m.length ≤ k := by simpa [rowsM_len] using hb
                                    omega
    subst hlt
    refine AK.exit rfl ?_
    refine kW ?_
    refine AK.ret ⟨_, rfl, ?_⟩
    exact congrArg (AV.int _) (by rw [← hr, List.drop_length]; rfl)
theorem treeCheck_a (v : V) (hsb : v.sb) (hsz : v.size ≤ 2000000000000) : AC Tryz.prog 25 [.agg [.int .i64 (v).kind, .bool (v).b, .int .i64 (v).n, .str (v).s, .lst .any 6 (rowsV (v).l), .lst .any 7 (rowsM (v).m)]] (.int .i64 v.checkC) := by
 refine kE Tryz.func25 a_tree_Check_ok a_tree_Check_cb fun E hE => ?_
 refine kW ?_
 refine kP [.v (.int .i64 v.depth)] ?_ ?_
 ·((repeat' apply And.intro) <;> first | exact kD | (intro hgd; refine ⟨?_, kG⟩; (repeat' apply And.intro) <;> first | exact kD | skip) | skip)
  ·exact treeDepth_a _ v (Nat.le_refl _) hsz
 refine kC (fun hb => ?_) fun hb => ?_
 ·have h1 : 16 < v.depth := by have : ((v.depth : Nat) : Int) > 16 := by simpa using hb
                               omega
  refine kW ?_
  refine AK.ret ⟨_, rfl, ?_⟩
  rw [V.checkC, if_pos h1]
  rfl
 have h1 : ¬ 16 < v.depth := by have : ¬ ((v.depth : Nat) : Int) > 16 := by simpa using hb
                                omega
 refine kW ?_
 refine kP [.v (.int .i64 v.size)] ?_ ?_
 ·((repeat' apply And.intro) <;> first | exact kD | (intro hgd; refine ⟨?_, kG⟩; (repeat' apply And.intro) <;> first | exact kD | skip) | skip)
  ·exact treeSize_a _ v (Nat.le_refl _) hsz
 refine kC (fun hb => ?_) fun hb => ?_
 ·have h2 : 4096 < v.size := by have : ((v.size : Nat) : Int) > 4096 := by simpa using hb
                                omega
  refine kW ?_
  refine AK.ret ⟨_, rfl, ?_⟩
  rw [V.checkC, if_neg h1, if_pos h2]
  rfl
 have h2 : ¬ 4096 < v.size := by have : ¬ ((v.size : Nat) : Int) > 4096 := by simpa using hb
                                 omega
 refine kW ?_
 refine kP [.v (.int .i64 v.partsC)] ?_ ?_
 ·((repeat' apply And.intro) <;> first | exact kD | (intro hgd; refine ⟨?_, kG⟩; (repeat' apply And.intro) <;> first | exact kD | skip) | skip)
  ·exact treeParts_a _ v (Nat.le_refl _) hsb hsz
 refine kW ?_
 refine AK.ret ⟨_, rfl, ?_⟩
 rw [V.checkC, if_neg h1, if_neg h2]
 rfl
end Go.Proofs.YtgekcnpfflhpkaaGreatDoor
