/-
  Records as values: plainly; texts, walked.
-/
import Derived.Test.YtgcodocajgdmcaaGreatDoorOw2
import Derived.Test.YtgcodocajgdmcaaGreatDoorDrT
import Derived.Test.YtgcodocajgdmcaaGreatDoorRecA
namespace Go.Proofs.YtgcodocajgdmcaaGreatDoor
set_option linter.unusedSimpArgs false
set_option linter.unusedVariables false
open Go.RowKit

/-- a revision's record -/
structure Rc where
  rel : ByteArray
  rev : Int
  st : Int
  cmd : Int
  ch : ByteArray
  va : ByteArray
  ma : ByteArray
def rcA (r : Rc) : List AV := [.str r.rel, .int .i64 r.rev, .int .i64 r.st, .int .i64 r.cmd, .str r.ch, .str r.va, .str r.ma]
def rcOk (r : Rc) : Bool := nameB r.rel && (decide (1 ≤ r.rev) && decide (r.rev ≤ 1000000) && decide (1 ≤ r.st) && decide (r.st ≤ 5) && decide (1 ≤ r.cmd) && decide (r.cmd ≤ 4) && (textB r.ch && textB r.va && textB r.ma))
/-- sizes that any text has -/
def Rc.sz (r : Rc) : Prop := r.rel.size ≤ 140737488355328 ∧ r.ch.size ≤ 140737488355328 ∧ r.va.size ≤ 140737488355328 ∧ r.ma.size ≤ 140737488355328
theorem treeText_a (s : ByteArray) (hs : s.size ≤ 140737488355328) : AC Tryz.prog 63 [.str s] (.bool (textB s)) := by
  refine AC.enter Tryz.func63 a_tree_Text_ok a_tree_Text_cb (by rfl) fun E hE => ?_
  show AK _ _ _ [.c b_tree_Text] _ _
  rw [b_tree_Text]
  (repeat (first | apply AK.seq | apply AK.block | apply AK.blk | apply AK.skip | (refine AK.reg follows_any (rs := []) (by rfl) ?_ ?_; first | exact trivial | exact ⟨trivial, trivial⟩ | exact ⟨trivial, trivial, trivial⟩ | exact ⟨trivial, trivial, trivial, trivial⟩ | fail) | fail))
  refine AK.loopI (fun k : Nat => (frOf [(0, .str s), (6, .int .i64 s.size), (7, .int .i64 k)], ⟨boxOf [], fun _ => 0⟩)) (fun k => k ≤ s.size ∧ allTo okT s k) (fun k => s.size - k) 0 ⟨by omega, allTo_zero _ _⟩ (Weak.intro ⟨⟨_, rfl, .refl _⟩, ⟨_, rfl, .refl _⟩, ⟨_, rfl, .refl _⟩, trivial⟩ trivial rfl rfl) fun k ⟨hk, hno⟩ => ?_
  (repeat (first | apply AK.seq | apply AK.block | apply AK.blk | apply AK.skip | (refine AK.reg follows_any (rs := []) (by rfl) ?_ ?_; first | exact trivial | exact ⟨trivial, trivial⟩ | exact ⟨trivial, trivial, trivial⟩ | exact ⟨trivial, trivial, trivial, trivial⟩ | fail) | fail))
  refine AK.cond (by rfl) (fun hb => ?_) (fun hb => ?_)
  · have hlt : k < s.size := by simpa using hb
    (repeat (first | apply AK.seq | apply AK.block | apply AK.blk | apply AK.skip | (refine AK.reg follows_any (rs := []) (by rfl) ?_ ?_; first | exact trivial | exact ⟨trivial, trivial⟩ | exact ⟨trivial, trivial, trivial⟩ | exact ⟨trivial, trivial, trivial, trivial⟩ | fail) | fail))
    refine AK.reg follows_any (rs := []) (by rfl) ?_ ?_
    · ((repeat' apply And.intro) <;> first | trivial | omega | (simp only [List.length_nil, List.length_cons]; omega) | (intro hgd; first | (rw [hgd]; rfl) | (refine ⟨?_, by repeat (first | exact trivial | refine ⟨hgd, ?_⟩)⟩; (repeat' apply And.intro) <;> first | trivial | omega | (intro h2; rw [hgd, h2]; rfl) | skip)) | skip)
    rw [show s.data.getD (k : Int).toNat 0 = s[k] from byte_at hlt]
    (repeat (first | apply AK.seq | apply AK.block | apply AK.blk | apply AK.skip | (refine AK.reg follows_any (rs := []) (by rfl) ?_ ?_; first | exact trivial | exact ⟨trivial, trivial⟩ | exact ⟨trivial, trivial, trivial⟩ | exact ⟨trivial, trivial, trivial, trivial⟩ | fail) | fail))
    refine AK.reg follows_any (rs := []) (by rfl) ?_ ?_
    · ((repeat' apply And.intro) <;> first | trivial | omega | (simp only [List.length_nil, List.length_cons]; omega) | (intro hgd; first | (rw [hgd]; rfl) | (refine ⟨?_, by repeat (first | exact trivial | refine ⟨hgd, ?_⟩)⟩; (repeat' apply And.intro) <;> first | trivial | omega | (intro h2; rw [hgd, h2]; rfl) | skip)) | skip)
    refine AK.cond (by rfl) (fun hb => ?_) (fun hb => ?_)
    · (repeat (first | apply AK.seq | apply AK.block | apply AK.blk | apply AK.skip | (refine AK.reg follows_any (rs := []) (by rfl) ?_ ?_; first | exact trivial | exact ⟨trivial, trivial⟩ | exact ⟨trivial, trivial, trivial⟩ | exact ⟨trivial, trivial, trivial, trivial⟩ | fail) | fail))
      refine AK.ret ⟨_, rfl, ?_⟩
      have hf : okT s[k] = false := by
        simp only [Bool.or_eq_true, Bool.and_eq_true, Bool.not_eq_true', decide_eq_true_eq, decide_eq_false_iff_not] at hb
        simp only [okT, Bool.or_eq_false_iff, Bool.and_eq_false_iff, decide_eq_false_iff_not, beq_eq_false_iff_ne, ne_eq]
        omega
      rw [textB, allB_false hlt hf]
      rfl
    · have ht : okT s[k] = true := by
        simp only [Bool.or_eq_false_iff, Bool.and_eq_false_iff, Bool.not_eq_false', decide_eq_true_eq, decide_eq_false_iff_not] at hb
        simp only [okT, Bool.or_eq_true, Bool.and_eq_true, decide_eq_true_eq, beq_iff_eq]
        omega
      (repeat (first | apply AK.seq | apply AK.block | apply AK.blk | apply AK.skip | (refine AK.reg follows_any (rs := []) (by rfl) ?_ ?_; first | exact trivial | exact ⟨trivial, trivial⟩ | exact ⟨trivial, trivial, trivial⟩ | exact ⟨trivial, trivial, trivial, trivial⟩ | fail) | fail))
      exact AK.lp ⟨k + 1, ⟨by omega, allTo_succ hno hlt ht⟩, Weak.intro ⟨⟨_, rfl, .refl _⟩, ⟨_, rfl, .refl _⟩, ⟨_, rfl, .of_eq (congrArg _ (by first | omega | (rw [wrap_in (by omega) (by omega)]; omega)))⟩, trivial⟩ trivial rfl rfl, by omega⟩
  · have hlt : k = s.size := by have : s.size ≤ k := by simpa using hb
                                omega
    subst hlt
    refine AK.exit rfl ?_
    (repeat (first | apply AK.seq | apply AK.block | apply AK.blk | apply AK.skip | (refine AK.reg follows_any (rs := []) (by rfl) ?_ ?_; first | exact trivial | exact ⟨trivial, trivial⟩ | exact ⟨trivial, trivial, trivial⟩ | exact ⟨trivial, trivial, trivial, trivial⟩ | fail) | fail))
    refine AK.ret ⟨_, rfl, ?_⟩
    show AV.bool _ = AV.bool _
    refine congrArg AV.bool ?_
    rw [textB, allB_true hno, Bool.eq_iff_iff]
    simp
    try omega
theorem recRight_a (r : Rc) (hz : r.sz) : AC Tryz.prog 24 [.agg (rcA r)] (.bool (rcOk r)) := by
  have h1 := name_a r.rel hz.1
  have h2 := treeText_a r.ch hz.2.1
  have h3 := treeText_a r.va hz.2.2.1
  have h4 := treeText_a r.ma hz.2.2.2
  refine AC.enter Tryz.func24 a_record_Right_ok a_record_Right_cb (by rfl) fun E hE => ?_
  show AK _ _ _ [.c b_record_Right] _ _
  rw [b_record_Right]
  (repeat (first | apply AK.seq | apply AK.block | apply AK.blk | apply AK.skip | (refine AK.reg follows_any (rs := []) (by rfl) ?_ ?_; first | exact trivial | exact ⟨trivial, trivial⟩ | exact ⟨trivial, trivial, trivial⟩ | exact ⟨trivial, trivial, trivial, trivial⟩ | fail) | fail))
  refine AK.reg follows_any (rs := [.v (.bool (nameB r.rel)), .v (.bool (textB r.ch)), .v (.bool (textB r.va)), .v (.bool (textB r.ma))]) (by rfl) ?_ ?_
  · ((repeat' apply And.intro) <;> first | trivial | omega | (simp only [List.length_nil, List.length_cons]; omega) | (intro hgd; first | (rw [hgd]; rfl) | (refine ⟨?_, by repeat (first | exact trivial | refine ⟨hgd, ?_⟩)⟩; (repeat' apply And.intro) <;> first | trivial | omega | (intro h2; rw [hgd, h2]; rfl) | skip)) | skip)
  (repeat (first | apply AK.seq | apply AK.block | apply AK.blk | apply AK.skip | (refine AK.reg follows_any (rs := []) (by rfl) ?_ ?_; first | exact trivial | exact ⟨trivial, trivial⟩ | exact ⟨trivial, trivial, trivial⟩ | exact ⟨trivial, trivial, trivial, trivial⟩ | fail) | fail))
  refine AK.ret ⟨_, rfl, ?_⟩
  refine congrArg AV.bool ?_
  rw [rcOk]
  cases nameB r.rel <;> cases textB r.ch <;> cases textB r.va <;> cases textB r.ma <;> simp [Bool.eq_iff_iff] <;> omega
theorem refRRight_a (r : Rc) (hz : r.sz) : AC Tryz.prog 31 [.agg (rcA r)] (.bool (rcOk r)) := by
  have h1 := refName_a r.rel hz.1
  have h2 := refText_a r.ch hz.2.1
  have h3 := refText_a r.va hz.2.2.1
  have h4 := refText_a r.ma hz.2.2.2
  refine AC.enter Tryz.func31 a_ref17_Right_ok a_ref17_Right_cb (by rfl) fun E hE => ?_
  show AK _ _ _ [.c b_ref17_Right] _ _
  rw [b_ref17_Right]
  (repeat (first | apply AK.seq | apply AK.block | apply AK.blk | apply AK.skip | (refine AK.reg follows_any (rs := []) (by rfl) ?_ ?_; first | exact trivial | exact ⟨trivial, trivial⟩ | exact ⟨trivial, trivial, trivial⟩ | exact ⟨trivial, trivial, trivial, trivial⟩ | fail) | fail))
  refine AK.reg follows_any (rs := [.v (.bool (nameB r.rel)), .v (.bool (textB r.ch)), .v (.bool (textB r.va)), .v (.bool (textB r.ma))]) (by rfl) ?_ ?_
  · ((repeat' apply And.intro) <;> first | trivial | omega | (simp only [List.length_nil, List.length_cons]; omega) | (intro hgd; first | (rw [hgd]; rfl) | (refine ⟨?_, by repeat (first | exact trivial | refine ⟨hgd, ?_⟩)⟩; (repeat' apply And.intro) <;> first | trivial | omega | (intro h2; rw [hgd, h2]; rfl) | skip)) | skip)
  (repeat (first | apply AK.seq | apply AK.block | apply AK.blk | apply AK.skip | (refine AK.reg follows_any (rs := []) (by rfl) ?_ ?_; first | exact trivial | exact ⟨trivial, trivial⟩ | exact ⟨trivial, trivial, trivial⟩ | exact ⟨trivial, trivial, trivial, trivial⟩ | fail) | fail))
  refine AK.ret ⟨_, rfl, ?_⟩
  refine congrArg AV.bool ?_
  rw [rcOk]
  cases nameB r.rel <;> cases textB r.ch <;> cases textB r.va <;> cases textB r.ma <;> simp [Bool.eq_iff_iff] <;> omega
/-- a text, a number, a record as values -/
def V.str (s : ByteArray) : V := .mk 3 false 0 s [] []
def V.int (n : Int) : V := .mk 2 false n ⟨#[]⟩ [] []
def kChart : ByteArray := ⟨#[99, 104, 97, 114, 116]⟩
def kCommand : ByteArray := ⟨#[99, 111, 109, 109, 97, 110, 100]⟩
def kManifest : ByteArray := ⟨#[109, 97, 110, 105, 102, 101, 115, 116]⟩
def kRelease : ByteArray := ⟨#[114, 101, 108, 101, 97, 115, 101]⟩
def kRevision : ByteArray := ⟨#[114, 101, 118, 105, 115, 105, 111, 110]⟩
def kStatus : ByteArray := ⟨#[115, 116, 97, 116, 117, 115]⟩
def kValues : ByteArray := ⟨#[118, 97, 108, 117, 101, 115]⟩
def recM (r : Rc) : List (ByteArray × V) := [(kChart, .str r.ch), (kCommand, .int r.cmd), (kManifest, .str r.ma), (kRelease, .str r.rel), (kRevision, .int r.rev), (kStatus, .int r.st), (kValues, .str r.va)]
def recV (r : Rc) : V := .mk 5 false 0 ⟨#[]⟩ [] (recM r)
theorem rc_inj {a b : Rc} (h : recV a = recV b) : a = b := by
  cases a; cases b
  simp only [recV, recM, V.str, V.int, V.mk.injEq, List.cons.injEq, Prod.mk.injEq, true_and, and_true] at h
  simp_all
theorem name_text {s : ByteArray} (h : nameB s = true) : textB s = true := by
  simp only [nameB, Bool.and_eq_true, decide_eq_true_eq] at h
  obtain ⟨_, h2, h3⟩ := h
  simp only [bareB, Bool.and_eq_true, Bool.not_eq_true', decide_eq_true_eq] at h2
  have hall : allTo okT s s.size := fun j hj _ => by
    have := h2.2 j hj
    simp only [bareAt, letN, moreN, Bool.or_eq_true, Bool.and_eq_true, Bool.not_eq_true', decide_eq_true_eq, decide_eq_false_iff_not] at this
    simp only [okT, Bool.or_eq_true, Bool.and_eq_true, decide_eq_true_eq, beq_iff_eq]
    omega
  rw [textB, allB_true hall, Bool.true_and, decide_eq_true_eq]
  omega
theorem str_good {s : ByteArray} (h : textB s = true) : (V.str s).good := by
  rw [V.str, V.good]
  exact ⟨by simp [kbad], h, trivial, trivial, trivial⟩
theorem int_good (n : Int) : (V.int n).good := by
  rw [V.int, V.good]
  exact ⟨by simp [kbad, noBytes], by decide +kernel, trivial, trivial, trivial⟩
theorem rec_good {r : Rc} (h : rcOk r = true) : (recV r).good := by
  simp only [rcOk, Bool.and_eq_true, decide_eq_true_eq] at h
  obtain ⟨hn, _, ⟨hc, hv⟩, hm⟩ := h
  rw [recV, V.good]
  refine ⟨by simp [kbad, noBytes], by decide +kernel, trivial, ?_, ?_⟩
  · rw [goodM_iff]
    intro p hp
    simp only [recM, List.mem_cons, List.not_mem_nil, or_false] at hp
    have kk : ∀ k : ByteArray, k ∈ [kChart, kCommand, kManifest, kRelease, kRevision, kStatus, kValues] → keyB k = true := by decide +kernel
    rcases hp with rfl | rfl | rfl | rfl | rfl | rfl | rfl
    · exact ⟨kk _ (by simp), str_good hc⟩
    · exact ⟨kk _ (by simp), int_good _⟩
    · exact ⟨kk _ (by simp), str_good hm⟩
    · exact ⟨kk _ (by simp), str_good (name_text hn)⟩
    · exact ⟨kk _ (by simp), int_good _⟩
    · exact ⟨kk _ (by simp), int_good _⟩
    · exact ⟨kk _ (by simp), str_good hv⟩
  · have h1 : Op.bytesLess kChart.toList kCommand.toList = true := by decide +kernel
    have h2 : Op.bytesLess kCommand.toList kManifest.toList = true := by decide +kernel
    have h3 : Op.bytesLess kManifest.toList kRelease.toList = true := by decide +kernel
    have h4 : Op.bytesLess kRelease.toList kRevision.toList = true := by decide +kernel
    have h5 : Op.bytesLess kRevision.toList kStatus.toList = true := by decide +kernel
    have h6 : Op.bytesLess kStatus.toList kValues.toList = true := by decide +kernel
    exact ⟨h1, h2, h3, h4, h5, h6, trivial⟩
theorem rec_size (r : Rc) : (recV r).size = 8 := by simp [recV, recM, V.size, sizeM, sizeL, V.str, V.int]
end Go.Proofs.YtgcodocajgdmcaaGreatDoor
