/-
  A release's name, a revision's ID: the functions that tell them, walked.
-/
import Derived.Test.YtgcodocajgdmcaaGreatDoorBar
import Derived.Test.YtgcodocajgdmcaaGreatDoorOwP
import Derived.Lib.AppendIntMem
import Derived.Lib.UnsafeStr
namespace Go.Proofs.YtgcodocajgdmcaaGreatDoor
set_option linter.unusedSimpArgs false
set_option linter.unusedVariables false
open Go.RowKit

def noSl (s : ByteArray) : Bool := decide (∀ k, (h : k < s.size) → s[k].toNat ≠ 47)
/-- may a text be a release's name? -/
def nameB (s : ByteArray) : Bool := noSl s && (bareB s && decide (s.size ≤ 48))
theorem noSl_no {s : ByteArray} {k : Nat} (h : k < s.size) (hb : s[k].toNat = 47) : noSl s = false := decide_eq_false fun hA => hA k h hb
theorem refName_a (s : ByteArray) (hs : s.size ≤ 140737488355328) : AC Tryz.prog 38 [.str s] (.bool (nameB s)) := by
  have hB := refBare_a s hs
  refine AC.enter Tryz.func38 a_ref17_Name_ok a_ref17_Name_cb (by rfl) fun E hE => ?_
  show AK _ _ _ [.c b_ref17_Name] _ _
  rw [b_ref17_Name]
  (repeat (first | apply AK.seq | apply AK.block | apply AK.blk | apply AK.skip | (refine AK.reg follows_any (rs := []) (by rfl) ?_ ?_; first | exact trivial | exact ⟨trivial, trivial⟩ | exact ⟨trivial, trivial, trivial⟩ | exact ⟨trivial, trivial, trivial, trivial⟩ | fail) | fail))
  refine AK.loopI (fun k : Nat => (frOf [(0, .str s), (3, .int .i64 k)], ⟨boxOf [], fun _ => 0⟩)) (fun k => k ≤ s.size ∧ ∀ j, (h : j < s.size) → j < k → s[j].toNat ≠ 47) (fun k => s.size - k) 0 ⟨by omega, fun j h h2 => by omega⟩ (Weak.intro ⟨⟨_, rfl, .refl _⟩, ⟨_, rfl, .refl _⟩, trivial⟩ trivial rfl rfl) fun k ⟨hk, hno⟩ => ?_
  (repeat (first | apply AK.seq | apply AK.block | apply AK.blk | apply AK.skip | (refine AK.reg follows_any (rs := []) (by rfl) ?_ ?_; first | exact trivial | exact ⟨trivial, trivial⟩ | exact ⟨trivial, trivial, trivial⟩ | exact ⟨trivial, trivial, trivial, trivial⟩ | fail) | fail))
  refine AK.cond (by rfl) (fun hb => ?_) (fun hb => ?_)
  · have hlt : k < s.size := by simpa using hb
    (repeat (first | apply AK.seq | apply AK.block | apply AK.blk | apply AK.skip | (refine AK.reg follows_any (rs := []) (by rfl) ?_ ?_; first | exact trivial | exact ⟨trivial, trivial⟩ | exact ⟨trivial, trivial, trivial⟩ | exact ⟨trivial, trivial, trivial, trivial⟩ | fail) | fail))
    refine AK.reg follows_any (rs := []) (by rfl) ?_ ?_
    · ((repeat' apply And.intro) <;> first | trivial | omega | (simp only [List.length_nil, List.length_cons]; omega) | (intro hgd; first | (rw [hgd]; rfl) | (refine ⟨?_, by repeat (first | exact trivial | refine ⟨hgd, ?_⟩)⟩; (repeat' apply And.intro) <;> first | trivial | omega | (intro h2; rw [hgd, h2]; rfl) | skip)) | skip)
    rw [show s.data.getD (k : Int).toNat 0 = s[k] from byte_at hlt]
    refine AK.cond (by rfl) (fun hb => ?_) (fun hb => ?_)
    · have hf : s[k].toNat = 47 := by have h : ((s[k].toNat : Nat) : Int) = 47 := by simpa using hb
                                      omega
      (repeat (first | apply AK.seq | apply AK.block | apply AK.blk | apply AK.skip | (refine AK.reg follows_any (rs := []) (by rfl) ?_ ?_; first | exact trivial | exact ⟨trivial, trivial⟩ | exact ⟨trivial, trivial, trivial⟩ | exact ⟨trivial, trivial, trivial, trivial⟩ | fail) | fail))
      refine AK.ret ⟨_, rfl, ?_⟩
      rw [nameB, noSl_no hlt hf]
      rfl
    · have hf : s[k].toNat ≠ 47 := by have h : ¬ ((s[k].toNat : Nat) : Int) = 47 := by simpa using hb
                                      omega
      (repeat (first | apply AK.seq | apply AK.block | apply AK.blk | apply AK.skip | (refine AK.reg follows_any (rs := []) (by rfl) ?_ ?_; first | exact trivial | exact ⟨trivial, trivial⟩ | exact ⟨trivial, trivial, trivial⟩ | exact ⟨trivial, trivial, trivial, trivial⟩ | fail) | fail))
      exact AK.lp ⟨k + 1, ⟨by omega, fun j h h2 => by
        by_cases e : j = k
        · subst e; exact hf
        · exact hno j h (by omega)⟩, Weak.intro ⟨⟨_, rfl, .refl _⟩, ⟨_, rfl, .of_eq (congrArg _ (by first | omega | (rw [wrap_in (by omega) (by omega)]; omega)))⟩, trivial⟩ trivial rfl rfl, by omega⟩
  · have hlt : s.size ≤ k := by simpa using hb
    have hall : noSl s = true := decide_eq_true fun j h => hno j h (by omega)
    refine AK.exit rfl ?_
    (repeat (first | apply AK.seq | apply AK.block | apply AK.blk | apply AK.skip | (refine AK.reg follows_any (rs := []) (by rfl) ?_ ?_; first | exact trivial | exact ⟨trivial, trivial⟩ | exact ⟨trivial, trivial, trivial⟩ | exact ⟨trivial, trivial, trivial, trivial⟩ | fail) | fail))
    refine AK.reg follows_any (rs := [.v (.bool (bareB s))]) (by rfl) ?_ ?_
    · ((repeat' apply And.intro) <;> first | trivial | omega | (simp only [List.length_nil, List.length_cons]; omega) | (intro hgd; first | (rw [hgd]; rfl) | (refine ⟨?_, by repeat (first | exact trivial | refine ⟨hgd, ?_⟩)⟩; (repeat' apply And.intro) <;> first | trivial | omega | (intro h2; rw [hgd, h2]; rfl) | skip)) | skip)
    (repeat (first | apply AK.seq | apply AK.block | apply AK.blk | apply AK.skip | (refine AK.reg follows_any (rs := []) (by rfl) ?_ ?_; first | exact trivial | exact ⟨trivial, trivial⟩ | exact ⟨trivial, trivial, trivial⟩ | exact ⟨trivial, trivial, trivial, trivial⟩ | fail) | fail))
    refine AK.ret ⟨_, rfl, ?_⟩
    refine congrArg AV.bool ?_
    rw [nameB, hall]
    cases bareB s <;> simp <;> omega
theorem idx47 : ∀ (l : List UInt8), decide (0 ≤ Lib.indexByte l 47) = decide ((47 : UInt8) ∈ l)
  | [] => rfl
  | b :: l => by
    rw [Lib.indexByte]
    have ih := idx47 l
    by_cases h : b = 47
    · subst h; simp
    · have hb : (b == 47) = false := by simpa using h
      rw [hb]
      have e : decide ((47 : UInt8) ∈ b :: l) = decide ((47 : UInt8) ∈ l) := by
        rw [Bool.eq_iff_iff, decide_eq_true_eq, decide_eq_true_eq, List.mem_cons]
        exact ⟨fun h' => h'.resolve_left fun e => h e.symm, .inr⟩
      rw [e, ← ih]
      by_cases h1 : Lib.indexByte l 47 = -1
      · simp [h1]
      · have hge : -1 ≤ Lib.indexByte l 47 := by
          clear ih e h1
          induction l with
          | nil => decide
          | cons c l ih => rw [Lib.indexByte]; split <;> (try split) <;> omega
        have h2 : (Lib.indexByte l 47 == -1) = false := by simpa using h1
        simp only [Bool.false_eq_true, if_false, h2]
        rw [Bool.eq_iff_iff, decide_eq_true_eq, decide_eq_true_eq]
        omega
theorem noSl_mem (s : ByteArray) : (!decide ((47 : UInt8) ∈ s.data.toList)) = noSl s := by
  rw [Bool.eq_iff_iff, noSl, Bool.not_eq_true', decide_eq_false_iff_not, decide_eq_true_eq]
  constructor
  · intro h k hk e
    refine h ?_
    have : s[k] = 47 := UInt8.toNat_inj.1 e
    rw [← this]
    exact Array.mem_toList_iff.2 (Array.getElem_mem hk)
  · intro h hm
    obtain ⟨k, hk, e⟩ := List.getElem_of_mem hm
    have hk' : k < s.size := by simpa using hk
    refine h k hk' ?_
    have : s[k] = 47 := by rw [← e]; rfl
    rw [this]; rfl
theorem contains47_a (s : ByteArray) : AC Tryz.prog 79 [.str s, .str ⟨#[47]⟩] (.bool (!noSl s)) := by
  refine ⟨by kernel_rfl, fun σ w vs hh hr hg => ?_⟩
  have hl : vs.length = 2 := hr.1
  obtain ⟨v1, v2, rfl⟩ : ∃ a b, vs = [a, b] := by
    rcases vs with _ | ⟨a, _ | ⟨b, _ | ⟨d, l⟩⟩⟩ <;> simp at hl
    exact ⟨a, b, rfl⟩
  have h1 : Rel1 σ v1 (.str s) := hr.2 0 v1 _ rfl rfl
  have h2 : Rel1 σ v2 (.str ⟨#[47]⟩) := hr.2 1 v2 _ rfl rfl
  cases h1; cases h2
  refine (Tryz.strings_Contains_one s 47 w).mono ?_
  rintro e w' ⟨rfl, rfl⟩
  rw [idx47, ← noSl_mem, Bool.not_not]
  exact ⟨σ, _, rfl, Ext.refl _ _, hh, Below.refl _ _, .bool _⟩
theorem name_a (s : ByteArray) (hs : s.size ≤ 140737488355328) : AC Tryz.prog 37 [.str s] (.bool (nameB s)) := by
  have h1 := bare_a s hs
  have h2 := contains47_a s
  refine AC.enter Tryz.func37 a_record_Name_ok a_record_Name_cb (by rfl) fun E hE => ?_
  show AK _ _ _ [.c b_record_Name] _ _
  rw [b_record_Name]
  (repeat (first | apply AK.seq | apply AK.block | apply AK.blk | apply AK.skip | (refine AK.reg follows_any (rs := []) (by rfl) ?_ ?_; first | exact trivial | exact ⟨trivial, trivial⟩ | exact ⟨trivial, trivial, trivial⟩ | exact ⟨trivial, trivial, trivial, trivial⟩ | fail) | fail))
  refine AK.reg follows_any (rs := [.v (.bool (bareB s)), .v (.bool (!noSl s))]) (by rfl) ?_ ?_
  · ((repeat' apply And.intro) <;> first | trivial | omega | (simp only [List.length_nil, List.length_cons]; omega) | (intro hgd; first | (rw [hgd]; rfl) | (refine ⟨?_, by repeat (first | exact trivial | refine ⟨hgd, ?_⟩)⟩; (repeat' apply And.intro) <;> first | trivial | omega | (intro h2; rw [hgd, h2]; rfl) | skip)) | skip)
  (repeat (first | apply AK.seq | apply AK.block | apply AK.blk | apply AK.skip | (refine AK.reg follows_any (rs := []) (by rfl) ?_ ?_; first | exact trivial | exact ⟨trivial, trivial⟩ | exact ⟨trivial, trivial, trivial⟩ | exact ⟨trivial, trivial, trivial, trivial⟩ | fail) | fail))
  refine AK.ret ⟨_, rfl, ?_⟩
  refine congrArg AV.bool ?_
  rw [nameB]
  cases bareB s <;> cases noSl s <;> simp <;> omega
theorem Holds.on {σ : Sg} {w w' : World} (hh : Holds σ w) (hb : Below w.heap.size w w') : Holds σ w' := fun b q v hv => (hb.cell (p := ⟨b, q, none⟩) (World.block_lt_of_cell? w _ (hh _ _ _ hv))).trans (hh _ _ _ hv)
theorem tab_of {w : World} (h : GW w) : Lib.TabIs Tryz.prog w "internal/strconv.uint64pow10" .u64 Lib.pow10Tab := by
  obtain ⟨ty, fr, h1⟩ := h.cells (gi_uint64pow10, gv_uint64pow10) (by simp [globL])
  unfold Lib.TabIs World.var?
  rw [show Tryz.prog.globalNamed "internal/strconv.uint64pow10" = some gi_uint64pow10 by kernel_rfl, Option.bind_some, h1]
  show some gv_uint64pow10.toArray = _
  congr 1
theorem itoa_a (n : Nat) (hn : n ≤ 9223372036854775807) : AC Tryz.prog 62 [.int .i64 n] (.str ⟨(Lib.decDigits n).toArray⟩) := by
  refine ⟨by kernel_rfl, fun σ w vs hh hr hg => ?_⟩
  have hl : vs.length = 1 := hr.1
  obtain ⟨v1, rfl⟩ := List.length_eq_one_iff.1 hl
  have h1 : Rel1 σ v1 (.int .i64 n) := hr.2 0 v1 _ rfl rfl
  cases h1
  refine (Tryz.strconv_Itoa n (by omega) (by omega) w (tab_of hg)).mono ?_
  rintro e w' ⟨rfl, k, os, rfl⟩
  rw [Lib.itoa_nonneg]
  have hb := Lib.below_grow w.heap.size w (Nat.le_refl _) k os
  exact ⟨σ, _, rfl, Ext.refl _ _, hh.on hb, hb, .str _⟩
def idB (a : ByteArray) (n : Nat) : ByteArray := a ++ ⟨#[46, 118]⟩ ++ ⟨(Lib.decDigits n).toArray⟩
def hidB : ByteArray := ⟨#[82, 101, 108, 101, 97, 115, 101]⟩
def defB : ByteArray := ⟨#[100, 101, 102, 97, 117, 108, 116]⟩
theorem id_a (a : ByteArray) (n : Nat) (ha : a.size ≤ 140737488355328) (hn : n ≤ 1000000) : AC Tryz.prog 23 [.str a, .int .i64 n] (.agg [.str hidB, .str defB, .str (idB a n)]) := by
  have h1 := itoa_a n (by omega)
  have hd := dec_len 6 n (by omega)
  have hz : (ByteArray.mk (Lib.decDigits n).toArray).size = (Lib.decDigits n).length := by simp [ByteArray.size]
  have h2 : (a ++ ByteArray.mk #[46, 118]).size = a.size + 2 := by rw [ByteArray.size_append]; rfl
  refine AC.enter Tryz.func23 a_record_ID_ok a_record_ID_cb (by rfl) fun E hE => ?_
  show AK _ _ _ [.c b_record_ID] _ _
  rw [b_record_ID]
  (repeat (first | apply AK.seq | apply AK.block | apply AK.blk | apply AK.skip | (refine AK.reg follows_any (rs := []) (by rfl) ?_ ?_; first | exact trivial | exact ⟨trivial, trivial⟩ | exact ⟨trivial, trivial, trivial⟩ | exact ⟨trivial, trivial, trivial, trivial⟩ | fail) | fail))
  refine AK.reg follows_any (rs := [.v (.str ⟨(Lib.decDigits n).toArray⟩)]) (by rfl) ?_ ?_
  · ((repeat' apply And.intro) <;> first | trivial | omega | (simp only [List.length_nil, List.length_cons]; omega) | (intro hgd; first | (rw [hgd]; rfl) | (refine ⟨?_, by repeat (first | exact trivial | refine ⟨hgd, ?_⟩)⟩; (repeat' apply And.intro) <;> first | trivial | omega | (intro h2; rw [hgd, h2]; rfl) | skip)) | skip)
    all_goals (first | (show ((a.size + 2 : Nat) : Int) ≤ _; omega) | omega)
  (repeat (first | apply AK.seq | apply AK.block | apply AK.blk | apply AK.skip | (refine AK.reg follows_any (rs := []) (by rfl) ?_ ?_; first | exact trivial | exact ⟨trivial, trivial⟩ | exact ⟨trivial, trivial, trivial⟩ | exact ⟨trivial, trivial, trivial, trivial⟩ | fail) | fail))
  refine AK.ret ⟨_, rfl, ?_⟩
  rfl
end Go.Proofs.YtgcodocajgdmcaaGreatDoor
