/-
  The law's function RecordApart, walked.
-/
import Derived.Test.YtgcodocajgdmcaaDoorRc2
import Derived.Test.YtgcodocajgdmcaaDoorDrS
namespace Go.Proofs.YtgcodocajgdmcaaDoor
set_option linter.unusedSimpArgs false
set_option linter.unusedVariables false
open Go.RowKit

theorem heldR : Tryd.prog.stoodInHeld 44 = false := by kernel_rfl
theorem guardR : Tryd.prog.eqGuardType Tryd.prog.depth 44 = false := by kernel_rfl
def rcV (r : Rc) : List Value := [.string r.rel, .int .i64 r.rev, .int .i64 r.st, .int .i64 r.cmd, .string r.ch, .string r.va, .string r.ma]
theorem eqR_any (a b : Rc) : EqRun Tryd.prog false 44 (rcV a) (rcV b) (eqCells (rcA a) (rcA b)) := by
  intro w x y
  constructor
  · simp [go_sem, eqGuard, eqOp, guardR]
  · simp [go_sem, eqOp, heldR, eqCells, tl_iff, rcV, rcA]
    (repeat' split) <;> simp_all
theorem rcA_eq (a b : Rc) : eqCells (rcA a) (rcA b) = (recV a).sameB (recV b) := by
  rw [Bool.eq_iff_iff, V.sameB_true]
  constructor
  · intro h
    cases a; cases b
    simp [rcA, eqCells] at h
    obtain ⟨rfl, rfl, rfl, rfl, rfl, rfl, rfl⟩ := h
    rfl
  · intro h
    obtain rfl := rc_inj h
    simp [rcA, eqCells]
def lightR (r : Rc) : Bool := decide ((r.rel.size : Int) ≤ 200) && decide ((r.ch.size : Int) ≤ 500) && decide ((r.va.size : Int) ≤ 2000) && decide ((r.ma.size : Int) ≤ 4000)
theorem lightR_a (r : Rc) : AC Tryd.prog 20 [.agg (rcA r)] (.bool (lightR r)) := by
  refine AC.enter Tryd.func20 a_law17_Light_ok a_law17_Light_cb (by rfl) fun E hE => ?_
  show AK _ _ _ [.c b_law17_Light] _ _
  rw [b_law17_Light]
  (repeat (first | apply AK.seq | apply AK.block | apply AK.blk | apply AK.skip | (refine AK.reg follows_any (rs := []) (by rfl) ?_ ?_; first | exact trivial | exact ⟨trivial, trivial⟩ | exact ⟨trivial, trivial, trivial⟩ | exact ⟨trivial, trivial, trivial, trivial⟩ | fail) | fail))
  refine AK.reg follows_any (rs := []) (by rfl) ?_ ?_
  · ((repeat' apply And.intro) <;> first | trivial | omega | (simp only [List.length_nil, List.length_cons]; omega) | (intro hgd; first | (rw [hgd]; rfl) | (refine ⟨?_, by repeat (first | exact trivial | refine ⟨hgd, ?_⟩)⟩; (repeat' apply And.intro) <;> first | trivial | omega | (intro h2; rw [hgd, h2]; rfl) | skip)) | skip)
  (repeat (first | apply AK.seq | apply AK.block | apply AK.blk | apply AK.skip | (refine AK.reg follows_any (rs := []) (by rfl) ?_ ?_; first | exact trivial | exact ⟨trivial, trivial⟩ | exact ⟨trivial, trivial, trivial⟩ | exact ⟨trivial, trivial, trivial, trivial⟩ | fail) | fail))
  refine AK.ret ⟨_, rfl, ?_⟩
  rfl
set_option maxHeartbeats 2000000 in
theorem recordApart_a (a b : Rc) (ha : a.sz) (hb0 : b.sz) (wa : a.w) (wb : b.w) : AC Tryd.prog 4 [.agg (rcA a), .agg (rcA b)] (.bool true) := by
  have haw := awake_a
  have hLa := lightR_a a
  have hLb := lightR_a b
  have hRa := refRRight_a a ha
  have hRb := refRRight_a b hb0
  refine AC.enter Tryd.func4 a_law17_RecordApart_ok a_law17_RecordApart_cb (by rfl) fun E hE => ?_
  show AK _ _ _ [.c b_law17_RecordApart] _ _
  rw [b_law17_RecordApart]
  (repeat (first | apply AK.seq | apply AK.block | apply AK.blk | apply AK.skip | (refine AK.reg follows_any (rs := []) (by rfl) ?_ ?_; first | exact trivial | exact ⟨trivial, trivial⟩ | exact ⟨trivial, trivial, trivial⟩ | exact ⟨trivial, trivial, trivial, trivial⟩ | fail) | fail))
  refine AK.reg follows_any (rs := [.v (.bool (lightR a)), .v (.bool (lightR b)), .v (.bool (rcOk a)), .v (.bool (rcOk b))]) (by rfl) ?_ ?_
  · ((repeat' apply And.intro) <;> first | trivial | omega | (simp only [List.length_nil, List.length_cons]; omega) | (intro hgd; first | (rw [hgd]; rfl) | (refine ⟨?_, by repeat (first | exact trivial | refine ⟨hgd, ?_⟩)⟩; (repeat' apply And.intro) <;> first | trivial | omega | (intro h2; rw [hgd, h2]; rfl) | skip)) | skip)
  refine AK.cond (by rfl) (fun hb => ?_) (fun hb => ?_)
  · (repeat (first | apply AK.seq | apply AK.block | apply AK.blk | apply AK.skip | (refine AK.reg follows_any (rs := []) (by rfl) ?_ ?_; first | exact trivial | exact ⟨trivial, trivial⟩ | exact ⟨trivial, trivial, trivial⟩ | exact ⟨trivial, trivial, trivial, trivial⟩ | fail) | fail))
    refine AK.reg follows_any (rs := [.v (.bool true)]) (by rfl) ?_ ?_
    · ((repeat' apply And.intro) <;> first | trivial | omega | (simp only [List.length_nil, List.length_cons]; omega) | (intro hgd; first | (rw [hgd]; rfl) | (refine ⟨?_, by repeat (first | exact trivial | refine ⟨hgd, ?_⟩)⟩; (repeat' apply And.intro) <;> first | trivial | omega | (intro h2; rw [hgd, h2]; rfl) | skip)) | skip)
    (repeat (first | apply AK.seq | apply AK.block | apply AK.blk | apply AK.skip | (refine AK.reg follows_any (rs := []) (by rfl) ?_ ?_; first | exact trivial | exact ⟨trivial, trivial⟩ | exact ⟨trivial, trivial, trivial⟩ | exact ⟨trivial, trivial, trivial, trivial⟩ | fail) | fail))
    refine AK.ret ⟨_, rfl, ?_⟩
    rfl
  simp only [Bool.or_eq_false_iff, Bool.not_eq_false'] at hb
  obtain ⟨⟨⟨_, _⟩, ra⟩, rb⟩ := hb
  have rb2 := rb
  simp only [rcOk, Bool.and_eq_true, decide_eq_true_eq] at rb2
  obtain ⟨nb, hbr, _⟩ := rb2
  obtain ⟨n, hn⟩ : ∃ n : Nat, b.rev = n := ⟨b.rev.toNat, by omega⟩
  have hI := id_a b.rel n (by have := hb0.1; omega) (by omega)
  have hEa := encode_a a wa
  have hEb := encode_a b wb
  have hD := decode_a a b.rel n ra ha wa nb (by omega) (by omega)
  have hS := refSame_a (recV a).size (recV a) (recV b) (Nat.le_refl _) (by rw [rec_size]; omega)
  have hq := eqR_any a b
  have he := rcA_eq a b
  (repeat (first | apply AK.seq | apply AK.block | apply AK.blk | apply AK.skip | (refine AK.reg follows_any (rs := []) (by rfl) ?_ ?_; first | exact trivial | exact ⟨trivial, trivial⟩ | exact ⟨trivial, trivial, trivial⟩ | exact ⟨trivial, trivial, trivial, trivial⟩ | fail) | fail))
  refine AK.rega follows_any [] (frOf [(2, .ptr 2 0), (3, .ptr 3 0), (5, .ptr 5 0), (6, .ptr 6 0)]) ⟨boxOf [(2, rcA a, false), (3, rcA b, false), (5, rcA a, false), (6, rcA b, false)], fun _ => 0⟩ ?_ ?_
  · (repeat' (first | exact trivial | apply And.intro))
    all_goals exact Weak.intro ⟨⟨_, rfl, .refl _⟩, ⟨_, rfl, .refl _⟩, ⟨_, rfl, .refl _⟩, ⟨_, rfl, .refl _⟩, trivial⟩ ⟨⟨_, rfl, leL_refl _⟩, ⟨_, rfl, leL_refl _⟩, ⟨_, rfl, leL_refl _⟩, ⟨_, rfl, leL_refl _⟩, trivial⟩ rfl rfl
  generalize recV a = va at *
  generalize recV b = vb at *
  generalize hnm : idB b.rel n = nm at *
  (repeat (first | apply AK.seq | apply AK.block | apply AK.blk | apply AK.skip | (refine AK.reg follows_any (rs := []) (by rfl) ?_ ?_; first | exact trivial | exact ⟨trivial, trivial⟩ | exact ⟨trivial, trivial, trivial⟩ | exact ⟨trivial, trivial, trivial, trivial⟩ | fail) | fail))
  refine AK.reg follows_any (rs := [.v (.agg [.int .i64 (va).kind, .bool (va).b, .int .i64 (va).n, .str (va).s, .lst .any 6 (rowsV (va).l), .lst .any 7 (rowsM (va).m)]), .v (.agg [.int .i64 (vb).kind, .bool (vb).b, .int .i64 (vb).n, .str (vb).s, .lst .any 6 (rowsV (vb).l), .lst .any 7 (rowsM (vb).m)])]) (by rfl) ?_ ?_
  · ((repeat' apply And.intro) <;> first | trivial | omega | (simp only [List.length_nil, List.length_cons]; omega) | (intro hgd; first | (rw [hgd]; rfl) | (refine ⟨?_, by repeat (first | exact trivial | refine ⟨hgd, ?_⟩)⟩; (repeat' apply And.intro) <;> first | trivial | omega | (intro h2; rw [hgd, h2]; rfl) | skip)) | skip)
    all_goals first | exact hEa | exact hEb | skip
  by_cases hc : a.rel = b.rel ∧ a.rev = n
  · rw [if_pos hc] at hD
    (repeat (first | apply AK.seq | apply AK.block | apply AK.blk | apply AK.skip | (refine AK.reg follows_any (rs := []) (by rfl) ?_ ?_; first | exact trivial | exact ⟨trivial, trivial⟩ | exact ⟨trivial, trivial, trivial⟩ | exact ⟨trivial, trivial, trivial, trivial⟩ | fail) | fail))
    refine AK.reg follows_any (rs := [.v (.agg [.str hidB, .str defB, .str nm]), .v (.tup [.agg (rcA a), .int .i64 0])]) (by rfl) ?_ ?_
    · ((repeat' apply And.intro) <;> first | trivial | omega | (simp only [List.length_nil, List.length_cons]; omega) | (intro hgd; first | (rw [hgd]; rfl) | (refine ⟨?_, by repeat (first | exact trivial | refine ⟨hgd, ?_⟩)⟩; (repeat' apply And.intro) <;> first | trivial | omega | (intro h2; rw [hgd, h2]; rfl) | skip)) | skip)
      all_goals first | (rw [hn]; exact hI) | exact hD | skip
    (repeat (first | apply AK.seq | apply AK.block | apply AK.blk | apply AK.skip | (refine AK.reg follows_any (rs := []) (by rfl) ?_ ?_; first | exact trivial | exact ⟨trivial, trivial⟩ | exact ⟨trivial, trivial, trivial⟩ | exact ⟨trivial, trivial, trivial, trivial⟩ | fail) | fail))
    refine AK.reg follows_any (rs := [.v (.bool true), .v (.bool (va.sameB vb))]) (by rfl) ?_ ?_
    · ((repeat' apply And.intro) <;> first | trivial | omega | (simp only [List.length_nil, List.length_cons]; omega) | (intro hgd; first | (rw [hgd]; rfl) | (refine ⟨?_, by repeat (first | exact trivial | refine ⟨hgd, ?_⟩)⟩; (repeat' apply And.intro) <;> first | trivial | omega | (intro h2; rw [hgd, h2]; rfl) | skip)) | skip)
      all_goals first | exact hS | exact hq | skip
    (repeat (first | apply AK.seq | apply AK.block | apply AK.blk | apply AK.skip | (refine AK.reg follows_any (rs := []) (by rfl) ?_ ?_; first | exact trivial | exact ⟨trivial, trivial⟩ | exact ⟨trivial, trivial, trivial⟩ | exact ⟨trivial, trivial, trivial, trivial⟩ | fail) | fail))
    refine AK.ret ⟨_, rfl, ?_⟩
    refine congrArg AV.bool ?_
    have e1 : decide (a.rel = b.rel) = true := decide_eq_true hc.1
    have e2 : decide (a.rev = b.rev) = true := decide_eq_true (by rw [hc.2, hn])
    show ((true && (va.sameB vb == eqCells (rcA a) (rcA b))) && (decide ((0 : Int) = 0) == (decide (a.rel = b.rel) && decide (a.rev = b.rev)))) = true
    rw [he, e1, e2]
    cases va.sameB vb <;> rfl
  · rw [if_neg hc] at hD
    (repeat (first | apply AK.seq | apply AK.block | apply AK.blk | apply AK.skip | (refine AK.reg follows_any (rs := []) (by rfl) ?_ ?_; first | exact trivial | exact ⟨trivial, trivial⟩ | exact ⟨trivial, trivial, trivial⟩ | exact ⟨trivial, trivial, trivial, trivial⟩ | fail) | fail))
    refine AK.reg follows_any (rs := [.v (.agg [.str hidB, .str defB, .str nm]), .v (.tup [.agg rc0, .int .i64 35])]) (by rfl) ?_ ?_
    · ((repeat' apply And.intro) <;> first | trivial | omega | (simp only [List.length_nil, List.length_cons]; omega) | (intro hgd; first | (rw [hgd]; rfl) | (refine ⟨?_, by repeat (first | exact trivial | refine ⟨hgd, ?_⟩)⟩; (repeat' apply And.intro) <;> first | trivial | omega | (intro h2; rw [hgd, h2]; rfl) | skip)) | skip)
      all_goals first | (rw [hn]; exact hI) | exact hD | skip
    (repeat (first | apply AK.seq | apply AK.block | apply AK.blk | apply AK.skip | (refine AK.reg follows_any (rs := []) (by rfl) ?_ ?_; first | exact trivial | exact ⟨trivial, trivial⟩ | exact ⟨trivial, trivial, trivial⟩ | exact ⟨trivial, trivial, trivial, trivial⟩ | fail) | fail))
    refine AK.reg follows_any (rs := [.v (.bool true), .v (.bool (va.sameB vb))]) (by rfl) ?_ ?_
    · ((repeat' apply And.intro) <;> first | trivial | omega | (simp only [List.length_nil, List.length_cons]; omega) | (intro hgd; first | (rw [hgd]; rfl) | (refine ⟨?_, by repeat (first | exact trivial | refine ⟨hgd, ?_⟩)⟩; (repeat' apply And.intro) <;> first | trivial | omega | (intro h2; rw [hgd, h2]; rfl) | skip)) | skip)
      all_goals first | exact hS | exact hq | skip
    (repeat (first | apply AK.seq | apply AK.block | apply AK.blk | apply AK.skip | (refine AK.reg follows_any (rs := []) (by rfl) ?_ ?_; first | exact trivial | exact ⟨trivial, trivial⟩ | exact ⟨trivial, trivial, trivial⟩ | exact ⟨trivial, trivial, trivial, trivial⟩ | fail) | fail))
    refine AK.ret ⟨_, rfl, ?_⟩
    refine congrArg AV.bool ?_
    have e1 : (decide (a.rel = b.rel) && decide (a.rev = b.rev)) = false := by
      rw [Bool.eq_false_iff]
      intro h
      rw [Bool.and_eq_true, decide_eq_true_eq, decide_eq_true_eq] at h
      exact hc ⟨h.1, h.2.trans hn⟩
    show ((true && (va.sameB vb == eqCells (rcA a) (rcA b))) && (decide ((35 : Int) = 0) == (decide (a.rel = b.rel) && decide (a.rev = b.rev)))) = true
    rw [he, e1]
    cases va.sameB vb <;> rfl
end Go.Proofs.YtgcodocajgdmcaaDoor
