/-
  record.Decode of any object, walked.
-/
import Derived.Test.YtgcodocajgdmcaaGreatDoorOd3
import Derived.Test.YtgcodocajgdmcaaGreatDoorRc2
import Derived.Test.YtgcodocajgdmcaaGreatDoorDrS
import Derived.Test.YtgcodocajgdmcaaGreatDoorDr4
namespace Go.Proofs.YtgcodocajgdmcaaGreatDoor
set_option linter.unusedSimpArgs false
set_option linter.unusedVariables false
open Go.RowKit

/-- what a map holds of a key; nothing: null -/
def mval (key : ByteArray) (v : V) : V := (mfind key v.m).getD V.null
theorem mval_some {key : ByteArray} {v x : V} (h : mfind key v.m = some x) : mval key v = x := by rw [mval, h]; rfl
theorem mval_none {key : ByteArray} {v : V} (h : mfind key v.m = none) : mval key v = V.null := by rw [mval, h]; rfl
theorem mval_sb {key : ByteArray} {v : V} (h : v.sb) : (mval key v).s.size ≤ 140737488355328 := by
  cases hf : mfind key v.m with
  | none => rw [mval_none hf]; decide
  | some x =>
    rw [mval_some hf]
    have hm := mem_of_mfind hf
    exact ((V.sb_eq x).1 ((sbM_iff _).1 ((V.sb_eq v).1 h).2.2.2 _ hm).2).1
theorem textM_a (a b c : ByteArray) (v : V) (key : ByteArray) (hg : v.good) (hsz : v.size ≤ 1000000000000) : AC Tryz.prog 25 [.str key, .ro (.str a :: .str b :: .str c :: [.int .i64 (v).kind, .bool (v).b, .int .i64 (v).n, .str (v).s, .lst .any 6 (rowsV (v).l), .lst .any 7 (rowsM (v).m)])] (.str (mval key v).s) := by
  cases hf : mfind key v.m with
  | some x => rw [mval_some hf]; exact text_a a b c v x key hg hsz hf
  | none =>
    rw [mval_none hf]
    have hG := treeGet_none clone_ok hg hsz hf
    refine AC.enter Tryz.func25 a_record_Decode_1_ok a_record_Decode_1_cb (by rfl) fun E hE => ?_
    show AK _ _ _ [.c b_record_Decode_1] _ _
    rw [b_record_Decode_1]
    (repeat (first | apply AK.seq | apply AK.block | apply AK.blk | apply AK.skip | (refine AK.reg follows_any (rs := []) (by rfl) ?_ ?_; first | exact trivial | exact ⟨trivial, trivial⟩ | exact ⟨trivial, trivial, trivial⟩ | exact ⟨trivial, trivial, trivial, trivial⟩ | fail) | fail))
    refine AK.reg follows_any (rs := [.v nullAV]) (by rfl) ?_ ?_
    · ((repeat' apply And.intro) <;> first | trivial | omega | (simp only [List.length_nil, List.length_cons]; omega) | (intro hgd; first | (rw [hgd]; rfl) | (refine ⟨?_, by repeat (first | exact trivial | refine ⟨hgd, ?_⟩)⟩; (repeat' apply And.intro) <;> first | trivial | omega | (intro h2; rw [hgd, h2]; rfl) | skip)) | skip)
    (repeat (first | apply AK.seq | apply AK.block | apply AK.blk | apply AK.skip | (refine AK.reg follows_any (rs := []) (by rfl) ?_ ?_; first | exact trivial | exact ⟨trivial, trivial⟩ | exact ⟨trivial, trivial, trivial⟩ | exact ⟨trivial, trivial, trivial, trivial⟩ | fail) | fail))
    refine AK.ret ⟨_, rfl, ?_⟩
    rfl
theorem numberM_a (a b c : ByteArray) (v : V) (key : ByteArray) (hg : v.good) (hsz : v.size ≤ 1000000000000) : AC Tryz.prog 27 [.str key, .ro (.str a :: .str b :: .str c :: [.int .i64 (v).kind, .bool (v).b, .int .i64 (v).n, .str (v).s, .lst .any 6 (rowsV (v).l), .lst .any 7 (rowsM (v).m)])] (.int .i64 (mval key v).n) := by
  cases hf : mfind key v.m with
  | some x => rw [mval_some hf]; exact number_a a b c v x key hg hsz hf
  | none =>
    rw [mval_none hf]
    have hG := treeGet_none clone_ok hg hsz hf
    refine AC.enter Tryz.func27 a_record_Decode_2_ok a_record_Decode_2_cb (by rfl) fun E hE => ?_
    show AK _ _ _ [.c b_record_Decode_2] _ _
    rw [b_record_Decode_2]
    (repeat (first | apply AK.seq | apply AK.block | apply AK.blk | apply AK.skip | (refine AK.reg follows_any (rs := []) (by rfl) ?_ ?_; first | exact trivial | exact ⟨trivial, trivial⟩ | exact ⟨trivial, trivial, trivial⟩ | exact ⟨trivial, trivial, trivial, trivial⟩ | fail) | fail))
    refine AK.reg follows_any (rs := [.v nullAV]) (by rfl) ?_ ?_
    · ((repeat' apply And.intro) <;> first | trivial | omega | (simp only [List.length_nil, List.length_cons]; omega) | (intro hgd; first | (rw [hgd]; rfl) | (refine ⟨?_, by repeat (first | exact trivial | refine ⟨hgd, ?_⟩)⟩; (repeat' apply And.intro) <;> first | trivial | omega | (intro h2; rw [hgd, h2]; rfl) | skip)) | skip)
    (repeat (first | apply AK.seq | apply AK.block | apply AK.blk | apply AK.skip | (refine AK.reg follows_any (rs := []) (by rfl) ?_ ?_; first | exact trivial | exact ⟨trivial, trivial⟩ | exact ⟨trivial, trivial, trivial⟩ | exact ⟨trivial, trivial, trivial, trivial⟩ | fail) | fail))
    refine AK.ret ⟨_, rfl, ?_⟩
    rfl
/-- the record that a body tells -/
def rcOf (v : V) : Rc := ⟨(mval kRelease v).s, (mval kRevision v).n, (mval kStatus v).n, (mval kCommand v).n, (mval kChart v).s, (mval kValues v).s, (mval kManifest v).s⟩
theorem rcOf_sz {v : V} (h : v.sb) : (rcOf v).sz := ⟨mval_sb h, mval_sb h, mval_sb h, mval_sb h⟩
/-- an object that is a record's -/
def DecOk (k s nm : ByteArray) (v : V) : Prop := rcOk (rcOf v) = true ∧ recV (rcOf v) = v ∧ k = hidB ∧ s = defB ∧ nm = idB (rcOf v).rel (rcOf v).rev.toNat
theorem decOk_own {k s nm : ByteArray} {v : V} (h : DecOk k s nm v) : ownP k s nm = some ((rcOf v).rel, (rcOf v).rev.toNat) := by
  obtain ⟨h1, h2, h3, h4, h5⟩ := h
  simp only [rcOk, Bool.and_eq_true, decide_eq_true_eq] at h1
  obtain ⟨hn, ⟨⟨⟨⟨⟨r1, r2⟩, _⟩, _⟩, _⟩, _⟩, _⟩ := h1
  exact ownP_some ⟨hn, by dsimp only; omega, by dsimp only; omega, h3, h4, h5⟩
set_option maxHeartbeats 1000000 in
theorem decodeM_a (k s nm : ByteArray) (v : V) (hg : v.good) (hsz : v.size ≤ 1000000000000) (hsb : v.sb) (hnm : nm.size ≤ 1000000) (d : Bool) (hd : d = true ↔ DecOk k s nm v) :
    AC Tryz.prog 8 [.agg ([.str k, .str s, .str nm] ++ [.int .i64 (v).kind, .bool (v).b, .int .i64 (v).n, .str (v).s, .lst .any 6 (rowsV (v).l), .lst .any 7 (rowsM (v).m)])] (if d = true then .tup [.agg (rcA (rcOf v)), .int .i64 0] else .tup [.agg rc0, .int .i64 35]) := by
  have hO := owner_any k s nm hnm
  have hE := encode_a (rcOf v)
  have hR := recRight_a (rcOf v) (rcOf_sz hsb)
  have hS : rcOk (rcOf v) = true → _ := fun h => treeSame_a (recV (rcOf v)) v (rec_good h) hg (by rw [rec_size]; omega) (by omega)
  have hv : (recV (rcOf v)).sameB v = true ↔ recV (rcOf v) = v := V.sameB_true
  have t1 := textM_a k s nm v kRelease hg hsz
  have t2 := numberM_a k s nm v kRevision hg hsz
  have t3 := numberM_a k s nm v kStatus hg hsz
  have t4 := numberM_a k s nm v kCommand hg hsz
  have t5 := textM_a k s nm v kChart hg hsz
  have t6 := textM_a k s nm v kValues hg hsz
  have t7 := textM_a k s nm v kManifest hg hsz
  obtain ⟨r, hr⟩ : ∃ r, r = rcOf v := ⟨_, rfl⟩
  have u1 : (mval kRelease v).s = r.rel := by rw [hr]; rfl
  have u2 : (mval kRevision v).n = r.rev := by rw [hr]; rfl
  have u3 : (mval kStatus v).n = r.st := by rw [hr]; rfl
  have u4 : (mval kCommand v).n = r.cmd := by rw [hr]; rfl
  have u5 : (mval kChart v).s = r.ch := by rw [hr]; rfl
  have u6 : (mval kValues v).s = r.va := by rw [hr]; rfl
  have u7 : (mval kManifest v).s = r.ma := by rw [hr]; rfl
  have hdo : DecOk k s nm v → ownP k s nm = some (r.rel, r.rev.toNat) := fun h => by rw [hr]; exact decOk_own h
  have hdi : DecOk k s nm v ↔ (rcOk r = true ∧ recV r = v ∧ k = hidB ∧ s = defB ∧ nm = idB r.rel r.rev.toNat) := by rw [hr]; rfl
  rw [u1] at t1; rw [u2] at t2; rw [u3] at t3; rw [u4] at t4; rw [u5] at t5; rw [u6] at t6; rw [u7] at t7
  rw [← hr] at hE hR hS hv ⊢
  clear u1 u2 u3 u4 u5 u6 u7 hr
  generalize hx : recV r = x at *
  cases ho : ownP k s nm with
  | none =>
    rw [ho] at hO
    have hd0 : d = false := by
      rw [Bool.eq_false_iff]
      intro h
      have := hdo (hd.1 h)
      rw [ho] at this
      cases this
    rw [hd0]
    clear hx hd hdo hdi hv hd0 ho
    refine AC.enter Tryz.func8 a_record_Decode_ok a_record_Decode_cb (by rfl) fun E hE => ?_
    show AK _ _ _ [.c b_record_Decode] _ _
    rw [b_record_Decode]
    (repeat (first | apply AK.seq | apply AK.block | apply AK.blk | apply AK.skip | (refine AK.reg follows_any (rs := []) (by rfl) ?_ ?_; first | exact trivial | exact ⟨trivial, trivial⟩ | exact ⟨trivial, trivial, trivial⟩ | exact ⟨trivial, trivial, trivial, trivial⟩ | fail) | fail))
    refine AK.reg follows_any (rs := [.v (.str r.rel), .v (.int .i64 r.rev), .v (.int .i64 r.st), .v (.int .i64 r.cmd), .v (.str r.ch), .v (.str r.va), .v (.str r.ma)]) (by rfl) ?_ ?_
    · ((repeat' apply And.intro) <;> first | trivial | omega | (simp only [List.length_nil, List.length_cons]; omega) | (intro hgd; first | (rw [hgd]; rfl) | (refine ⟨?_, by repeat (first | exact trivial | refine ⟨hgd, ?_⟩)⟩; (repeat' apply And.intro) <;> first | trivial | omega | (intro h2; rw [hgd, h2]; rfl) | skip)) | skip)
      all_goals first | exact t1 | exact t2 | exact t3 | exact t4 | exact t5 | exact t6 | exact t7 | skip
    (repeat (first | apply AK.seq | apply AK.block | apply AK.blk | apply AK.skip | (refine AK.reg follows_any (rs := []) (by rfl) ?_ ?_; first | exact trivial | exact ⟨trivial, trivial⟩ | exact ⟨trivial, trivial, trivial⟩ | exact ⟨trivial, trivial, trivial, trivial⟩ | fail) | fail))
    refine AK.reg follows_any (rs := [.v (ownAV none)]) (by rfl) ?_ ?_
    · ((repeat' apply And.intro) <;> first | trivial | omega | (simp only [List.length_nil, List.length_cons]; omega) | (intro hgd; first | (rw [hgd]; rfl) | (refine ⟨?_, by repeat (first | exact trivial | refine ⟨hgd, ?_⟩)⟩; (repeat' apply And.intro) <;> first | trivial | omega | (intro h2; rw [hgd, h2]; rfl) | skip)) | skip)
    (repeat (first | apply AK.seq | apply AK.block | apply AK.blk | apply AK.skip | (refine AK.reg follows_any (rs := []) (by rfl) ?_ ?_; first | exact trivial | exact ⟨trivial, trivial⟩ | exact ⟨trivial, trivial, trivial⟩ | exact ⟨trivial, trivial, trivial, trivial⟩ | fail) | fail))
    refine AK.reg follows_any (rs := [.v (.bool (rcOk r)), .v (.agg [.int .i64 (x).kind, .bool (x).b, .int .i64 (x).n, .str (x).s, .lst .any 6 (rowsV (x).l), .lst .any 7 (rowsM (x).m)]), .v (.bool (x.sameB v))]) (by rfl) ?_ ?_
    · ((repeat' apply And.intro) <;> first | trivial | omega | (simp only [List.length_nil, List.length_cons]; omega) | (intro hgd; first | (rw [hgd]; rfl) | (refine ⟨?_, by repeat (first | exact trivial | refine ⟨hgd, ?_⟩)⟩; (repeat' apply And.intro) <;> first | trivial | omega | (intro h2; rw [hgd, h2]; rfl) | skip)) | skip)
      all_goals first | exact hE | exact hR | exact hS (by simp [gd] at hgd) | skip
    refine AK.cond (by rfl) (fun hb => ?_) (fun hb => ?_)
    · (repeat (first | apply AK.seq | apply AK.block | apply AK.blk | apply AK.skip | (refine AK.reg follows_any (rs := []) (by rfl) ?_ ?_; first | exact trivial | exact ⟨trivial, trivial⟩ | exact ⟨trivial, trivial, trivial⟩ | exact ⟨trivial, trivial, trivial, trivial⟩ | fail) | fail))
      refine AK.ret ⟨_, rfl, ?_⟩
      rfl
    · exact absurd hb (by simp)
  | some p =>
    obtain ⟨rel, n⟩ := p
    rw [ho] at hO
    have hP := ownP_iff.1 ho
    obtain ⟨p1, p2, p3, p4, p5, p6⟩ := hP
    dsimp only at p1 p2 p3 p6
    clear hdo
    refine AC.enter Tryz.func8 a_record_Decode_ok a_record_Decode_cb (by rfl) fun E hE => ?_
    show AK _ _ _ [.c b_record_Decode] _ _
    rw [b_record_Decode]
    (repeat (first | apply AK.seq | apply AK.block | apply AK.blk | apply AK.skip | (refine AK.reg follows_any (rs := []) (by rfl) ?_ ?_; first | exact trivial | exact ⟨trivial, trivial⟩ | exact ⟨trivial, trivial, trivial⟩ | exact ⟨trivial, trivial, trivial, trivial⟩ | fail) | fail))
    refine AK.reg follows_any (rs := [.v (.str r.rel), .v (.int .i64 r.rev), .v (.int .i64 r.st), .v (.int .i64 r.cmd), .v (.str r.ch), .v (.str r.va), .v (.str r.ma)]) (by rfl) ?_ ?_
    · ((repeat' apply And.intro) <;> first | trivial | omega | (simp only [List.length_nil, List.length_cons]; omega) | (intro hgd; first | (rw [hgd]; rfl) | (refine ⟨?_, by repeat (first | exact trivial | refine ⟨hgd, ?_⟩)⟩; (repeat' apply And.intro) <;> first | trivial | omega | (intro h2; rw [hgd, h2]; rfl) | skip)) | skip)
      all_goals first | exact t1 | exact t2 | exact t3 | exact t4 | exact t5 | exact t6 | exact t7 | skip
    (repeat (first | apply AK.seq | apply AK.block | apply AK.blk | apply AK.skip | (refine AK.reg follows_any (rs := []) (by rfl) ?_ ?_; first | exact trivial | exact ⟨trivial, trivial⟩ | exact ⟨trivial, trivial, trivial⟩ | exact ⟨trivial, trivial, trivial, trivial⟩ | fail) | fail))
    refine AK.reg follows_any (rs := [.v (.tup [.str rel, .int .i64 n, .bool true])]) (by rfl) ?_ ?_
    · ((repeat' apply And.intro) <;> first | trivial | omega | (simp only [List.length_nil, List.length_cons]; omega) | (intro hgd; first | (rw [hgd]; rfl) | (refine ⟨?_, by repeat (first | exact trivial | refine ⟨hgd, ?_⟩)⟩; (repeat' apply And.intro) <;> first | trivial | omega | (intro h2; rw [hgd, h2]; rfl) | skip)) | skip)
    (repeat (first | apply AK.seq | apply AK.block | apply AK.blk | apply AK.skip | (refine AK.reg follows_any (rs := []) (by rfl) ?_ ?_; first | exact trivial | exact ⟨trivial, trivial⟩ | exact ⟨trivial, trivial, trivial⟩ | exact ⟨trivial, trivial, trivial, trivial⟩ | fail) | fail))
    refine AK.reg follows_any (rs := [.v (.bool (rcOk r)), .v (.agg [.int .i64 (x).kind, .bool (x).b, .int .i64 (x).n, .str (x).s, .lst .any 6 (rowsV (x).l), .lst .any 7 (rowsM (x).m)]), .v (.bool (x.sameB v))]) (by rfl) ?_ ?_
    · ((repeat' apply And.intro) <;> first | trivial | omega | (simp only [List.length_nil, List.length_cons]; omega) | (intro hgd; first | (rw [hgd]; rfl) | (refine ⟨?_, by repeat (first | exact trivial | refine ⟨hgd, ?_⟩)⟩; (repeat' apply And.intro) <;> first | trivial | omega | (intro h2; rw [hgd, h2]; rfl) | skip)) | skip)
      all_goals first | exact hE | exact hR | exact hS (by simp [gd] at hgd; simp_all) | skip
    refine AK.cond (by rfl) (fun hb => ?_) (fun hb => ?_)
    · have hd0 : d = false := by
        rw [Bool.eq_false_iff]
        intro h
        obtain ⟨q1, q2, _, _, q5⟩ := hdi.1 (hd.1 h)
        have q1b := q1
        simp only [rcOk, Bool.and_eq_true, decide_eq_true_eq] at q1b
        obtain ⟨_, ⟨⟨⟨⟨⟨q3, _⟩, _⟩, _⟩, _⟩, _⟩, _⟩ := q1b
        obtain ⟨q6, q7⟩ := idB_inj2 (p6.symm.trans q5)
        have q8 := hv.2 q2
        have q9 : (n : Int) = r.rev := by omega
        simp [q1, q6, q8, q9] at hb
      rw [hd0]
      (repeat (first | apply AK.seq | apply AK.block | apply AK.blk | apply AK.skip | (refine AK.reg follows_any (rs := []) (by rfl) ?_ ?_; first | exact trivial | exact ⟨trivial, trivial⟩ | exact ⟨trivial, trivial, trivial⟩ | exact ⟨trivial, trivial, trivial, trivial⟩ | fail) | fail))
      refine AK.ret ⟨_, rfl, ?_⟩
      rfl
    · have hd1 : d = true := by
        simp only [Bool.or_eq_false_iff, Bool.not_eq_false', decide_eq_true_eq] at hb
        obtain ⟨⟨⟨⟨_, b1⟩, b2⟩, b3⟩, b4⟩ := hb
        refine hd.2 (hdi.2 ⟨b3, hv.1 b4, p4, p5, ?_⟩)
        rw [p6, b1, ← b2]
        rfl
      rw [hd1]
      (repeat (first | apply AK.seq | apply AK.block | apply AK.blk | apply AK.skip | (refine AK.reg follows_any (rs := []) (by rfl) ?_ ?_; first | exact trivial | exact ⟨trivial, trivial⟩ | exact ⟨trivial, trivial, trivial⟩ | exact ⟨trivial, trivial, trivial, trivial⟩ | fail) | fail))
      refine AK.ret ⟨_, rfl, ?_⟩
      rfl
end Go.Proofs.YtgcodocajgdmcaaGreatDoor
/-
  The document's Decode of any object, walked.
-/
namespace Go.Proofs.YtgcodocajgdmcaaGreatDoor
set_option linter.unusedSimpArgs false
set_option linter.unusedVariables false
open Go.RowKit

theorem refStr_a (s : ByteArray) : AC Tryz.prog 72 [.str s] (.agg [.int .i64 ((V.str s)).kind, .bool ((V.str s)).b, .int .i64 ((V.str s)).n, .str ((V.str s)).s, .lst .any 6 (rowsV ((V.str s)).l), .lst .any 7 (rowsM ((V.str s)).m)]) := by
  refine AC.enter Tryz.func72 a_ref17_str_ok a_ref17_str_cb (by rfl) fun E hE => ?_
  show AK _ _ _ [.c b_ref17_str] _ _
  rw [b_ref17_str]
  (repeat (first | apply AK.seq | apply AK.block | apply AK.blk | apply AK.skip | (refine AK.reg follows_any (rs := []) (by rfl) ?_ ?_; first | exact trivial | exact ⟨trivial, trivial⟩ | exact ⟨trivial, trivial, trivial⟩ | exact ⟨trivial, trivial, trivial, trivial⟩ | fail) | fail))
  refine AK.ret ⟨_, rfl, ?_⟩
  rfl
theorem refNum_a (n : Int) : AC Tryz.prog 73 [.int .i64 n] (.agg [.int .i64 ((V.int n)).kind, .bool ((V.int n)).b, .int .i64 ((V.int n)).n, .str ((V.int n)).s, .lst .any 6 (rowsV ((V.int n)).l), .lst .any 7 (rowsM ((V.int n)).m)]) := by
  refine AC.enter Tryz.func73 a_ref17_num_ok a_ref17_num_cb (by rfl) fun E hE => ?_
  show AK _ _ _ [.c b_ref17_num] _ _
  rw [b_ref17_num]
  (repeat (first | apply AK.seq | apply AK.block | apply AK.blk | apply AK.skip | (refine AK.reg follows_any (rs := []) (by rfl) ?_ ?_; first | exact trivial | exact ⟨trivial, trivial⟩ | exact ⟨trivial, trivial, trivial⟩ | exact ⟨trivial, trivial, trivial, trivial⟩ | fail) | fail))
  refine AK.ret ⟨_, rfl, ?_⟩
  rfl
theorem refEncode_a (r : Rc) : AC Tryz.prog 34 [.agg (rcA r)] (.agg [.int .i64 ((recV r)).kind, .bool ((recV r)).b, .int .i64 ((recV r)).n, .str ((recV r)).s, .lst .any 6 (rowsV ((recV r)).l), .lst .any 7 (rowsM ((recV r)).m)]) := by
  refine AC.enter Tryz.func34 a_ref17_Encode_ok a_ref17_Encode_cb (by rfl) fun E hE => ?_
  show AK _ _ _ [.c b_ref17_Encode] _ _
  rw [b_ref17_Encode]
  (repeat (first | apply AK.seq | apply AK.block | apply AK.blk | apply AK.skip | (refine AK.reg follows_any (rs := []) (by rfl) ?_ ?_; first | exact trivial | exact ⟨trivial, trivial⟩ | exact ⟨trivial, trivial, trivial⟩ | exact ⟨trivial, trivial, trivial, trivial⟩ | fail) | fail))
  refine AK.reg follows_any (rs := [.v (.agg [.int .i64 ((V.str r.ch)).kind, .bool ((V.str r.ch)).b, .int .i64 ((V.str r.ch)).n, .str ((V.str r.ch)).s, .lst .any 6 (rowsV ((V.str r.ch)).l), .lst .any 7 (rowsM ((V.str r.ch)).m)]), .v (.agg [.int .i64 ((V.int r.cmd)).kind, .bool ((V.int r.cmd)).b, .int .i64 ((V.int r.cmd)).n, .str ((V.int r.cmd)).s, .lst .any 6 (rowsV ((V.int r.cmd)).l), .lst .any 7 (rowsM ((V.int r.cmd)).m)]), .v (.agg [.int .i64 ((V.str r.ma)).kind, .bool ((V.str r.ma)).b, .int .i64 ((V.str r.ma)).n, .str ((V.str r.ma)).s, .lst .any 6 (rowsV ((V.str r.ma)).l), .lst .any 7 (rowsM ((V.str r.ma)).m)]), .v (.agg [.int .i64 ((V.str r.rel)).kind, .bool ((V.str r.rel)).b, .int .i64 ((V.str r.rel)).n, .str ((V.str r.rel)).s, .lst .any 6 (rowsV ((V.str r.rel)).l), .lst .any 7 (rowsM ((V.str r.rel)).m)]), .v (.agg [.int .i64 ((V.int r.rev)).kind, .bool ((V.int r.rev)).b, .int .i64 ((V.int r.rev)).n, .str ((V.int r.rev)).s, .lst .any 6 (rowsV ((V.int r.rev)).l), .lst .any 7 (rowsM ((V.int r.rev)).m)]), .v (.agg [.int .i64 ((V.int r.st)).kind, .bool ((V.int r.st)).b, .int .i64 ((V.int r.st)).n, .str ((V.int r.st)).s, .lst .any 6 (rowsV ((V.int r.st)).l), .lst .any 7 (rowsM ((V.int r.st)).m)]), .v (.agg [.int .i64 ((V.str r.va)).kind, .bool ((V.str r.va)).b, .int .i64 ((V.str r.va)).n, .str ((V.str r.va)).s, .lst .any 6 (rowsV ((V.str r.va)).l), .lst .any 7 (rowsM ((V.str r.va)).m)])]) (by rfl) ?_ ?_
  · ((repeat' apply And.intro) <;> first | trivial | omega | (simp only [List.length_nil, List.length_cons]; omega) | (intro hgd; first | (rw [hgd]; rfl) | (refine ⟨?_, by repeat (first | exact trivial | refine ⟨hgd, ?_⟩)⟩; (repeat' apply And.intro) <;> first | trivial | omega | (intro h2; rw [hgd, h2]; rfl) | skip)) | skip)
    all_goals first | exact refStr_a _ | exact refNum_a _ | skip
  (repeat (first | apply AK.seq | apply AK.block | apply AK.blk | apply AK.skip | (refine AK.reg follows_any (rs := []) (by rfl) ?_ ?_; first | exact trivial | exact ⟨trivial, trivial⟩ | exact ⟨trivial, trivial, trivial⟩ | exact ⟨trivial, trivial, trivial, trivial⟩ | fail) | fail))
  refine AK.ret ⟨_, rfl, ?_⟩
  rfl
theorem refMval_a (v : V) (key : ByteArray) (hsz : v.size ≤ 2000000000000) : ∃ (x : V) (b : Bool), AC Tryz.prog 30 [.agg [.int .i64 (v).kind, .bool (v).b, .int .i64 (v).n, .str (v).s, .lst .any 6 (rowsV (v).l), .lst .any 7 (rowsM (v).m)], .str key] (.tup [.agg [.int .i64 (x).kind, .bool (x).b, .int .i64 (x).n, .str (x).s, .lst .any 6 (rowsV (x).l), .lst .any 7 (rowsM (x).m)], .bool b]) ∧ x.s = (mval key v).s ∧ x.n = (mval key v).n := by
  have h := refGet_a v key hsz
  cases hf : mfind key v.m with
  | none =>
    rw [hf] at h
    refine ⟨V.null, false, ?_, by rw [mval_none hf], by rw [mval_none hf]⟩
    exact h
  | some x =>
    rw [hf] at h
    refine ⟨x, true, h, by rw [mval_some hf], by rw [mval_some hf]⟩
set_option maxHeartbeats 2000000 in
theorem refDecodeM_a (k s nm : ByteArray) (v : V) (hsz : v.size ≤ 1000000000000) (hsb : v.sb) (d : Bool) (hd : d = true ↔ DecOk k s nm v) :
    AC Tryz.prog 9 [.agg ([.str k, .str s, .str nm] ++ [.int .i64 (v).kind, .bool (v).b, .int .i64 (v).n, .str (v).s, .lst .any 6 (rowsV (v).l), .lst .any 7 (rowsM (v).m)])] (if d = true then .tup [.agg (rcA (rcOf v)), .bool true] else .tup [.agg rc0, .bool false]) := by
  obtain ⟨x0, b0, g0, e0, _⟩ := refMval_a v kChart (by omega)
  obtain ⟨x1, b1, g1, e1, _⟩ := refMval_a v kManifest (by omega)
  obtain ⟨x2, b2, g2, e2, _⟩ := refMval_a v kRelease (by omega)
  obtain ⟨x3, b3, g3, e3, _⟩ := refMval_a v kValues (by omega)
  obtain ⟨y0, c0, h0, _, f0⟩ := refMval_a v kCommand (by omega)
  obtain ⟨y1, c1, h1, _, f1⟩ := refMval_a v kRevision (by omega)
  obtain ⟨y2, c2, h2, _, f2⟩ := refMval_a v kStatus (by omega)
  have hE := refEncode_a (rcOf v)
  have hR := refRRight_a (rcOf v) (rcOf_sz hsb)
  have hS := refSame_a (recV (rcOf v)).size (recV (rcOf v)) v (Nat.le_refl _) (by rw [rec_size]; omega)
  have hv : (recV (rcOf v)).sameB v = true ↔ recV (rcOf v) = v := V.sameB_true
  have hID : rcOk (rcOf v) = true → AC Tryz.prog 32 [.str (rcOf v).rel, .int .i64 (rcOf v).rev] (.agg [.str hidB, .str defB, .str (idB (rcOf v).rel (rcOf v).rev.toNat)]) := fun h => by
    simp only [rcOk, Bool.and_eq_true, decide_eq_true_eq] at h
    obtain ⟨hn, ⟨⟨⟨⟨⟨r1, r2⟩, _⟩, _⟩, _⟩, _⟩, _⟩ := h
    have := refID_a (rcOf v).rel (rcOf v).rev.toNat (rcOf_sz hsb).1 (by omega)
    rw [show (((rcOf v).rev.toNat : Nat) : Int) = (rcOf v).rev by omega] at this
    exact this
  obtain ⟨r, hr⟩ : ∃ r, r = rcOf v := ⟨_, rfl⟩
  have u0 : x0.s = r.ch := by rw [e0, hr]; rfl
  have u1 : x1.s = r.ma := by rw [e1, hr]; rfl
  have u2 : x2.s = r.rel := by rw [e2, hr]; rfl
  have u3 : x3.s = r.va := by rw [e3, hr]; rfl
  have u4 : y0.n = r.cmd := by rw [f0, hr]; rfl
  have u5 : y1.n = r.rev := by rw [f1, hr]; rfl
  have u6 : y2.n = r.st := by rw [f2, hr]; rfl
  have hdi : DecOk k s nm v ↔ (rcOk r = true ∧ recV r = v ∧ k = hidB ∧ s = defB ∧ nm = idB r.rel r.rev.toNat) := by rw [hr]; rfl
  rw [← hr] at hE hR hS hv hID ⊢
  clear e0 e1 e2 e3 f0 f1 f2 hr
  generalize hx : recV r = x at *
  refine AC.enter Tryz.func9 a_ref17_Decode_ok a_ref17_Decode_cb (by rfl) fun E hE => ?_
  show AK _ _ _ [.c b_ref17_Decode] _ _
  rw [b_ref17_Decode]
  (repeat (first | apply AK.seq | apply AK.block | apply AK.blk | apply AK.skip | (refine AK.reg follows_any (rs := []) (by rfl) ?_ ?_; first | exact trivial | exact ⟨trivial, trivial⟩ | exact ⟨trivial, trivial, trivial⟩ | exact ⟨trivial, trivial, trivial, trivial⟩ | fail) | fail))
  refine AK.loopI (fun i : Nat => (frOf [(1, .ptr 1 0), (2, .ptr 2 0), (4, .ptr 4 0), (5, .ptr 5 0), (6, .lst .any 1 [[.str kChart], [.str kManifest], [.str kRelease], [.str kValues]]), (7, .int .i64 i)], ⟨boxOf [(1, .str k :: .str s :: .str nm :: [.int .i64 (v).kind, .bool (v).b, .int .i64 (v).n, .str (v).s, .lst .any 6 (rowsV (v).l), .lst .any 7 (rowsM (v).m)], false), (2, rc0, false), (4, [.str (if 0 < i then r.ch else ⟨#[]⟩), .str (if 1 < i then r.ma else ⟨#[]⟩), .str (if 2 < i then r.rel else ⟨#[]⟩), .str (if 3 < i then r.va else ⟨#[]⟩)], false), (5, [.int .i64 0, .int .i64 0, .int .i64 0], false)], fun _ => 0⟩)) (fun i => i ≤ 4) (fun i => 4 - i) 0 (by omega) (Weak.intro ⟨⟨_, rfl, .refl _⟩, ⟨_, rfl, .refl _⟩, ⟨_, rfl, .refl _⟩, ⟨_, rfl, .refl _⟩, ⟨_, rfl, .one (.any _ _ _)⟩, ⟨_, rfl, .refl _⟩, trivial⟩ ⟨⟨_, rfl, leL_refl _⟩, ⟨_, rfl, leL_refl _⟩, ⟨_, rfl, leL_refl _⟩, ⟨_, rfl, leL_refl _⟩, trivial⟩ rfl rfl) fun i hi => ?_
  obtain rfl | rfl | rfl | rfl | rfl : i = 0 ∨ i = 1 ∨ i = 2 ∨ i = 3 ∨ i = 4 := by omega
  · (repeat (first | apply AK.seq | apply AK.block | apply AK.blk | apply AK.skip | (refine AK.reg follows_any (rs := []) (by rfl) ?_ ?_; first | exact trivial | exact ⟨trivial, trivial⟩ | exact ⟨trivial, trivial, trivial⟩ | exact ⟨trivial, trivial, trivial, trivial⟩ | fail) | fail))
    refine AK.cond (by rfl) (fun hb => ?_) (fun hb => ?_)
    · (repeat (first | apply AK.seq | apply AK.block | apply AK.blk | apply AK.skip | (refine AK.reg follows_any (rs := []) (by rfl) ?_ ?_; first | exact trivial | exact ⟨trivial, trivial⟩ | exact ⟨trivial, trivial, trivial⟩ | exact ⟨trivial, trivial, trivial, trivial⟩ | fail) | fail))
      refine AK.reg follows_any (rs := [.c [.str kChart], .v (.tup [.agg [.int .i64 (x0).kind, .bool (x0).b, .int .i64 (x0).n, .str (x0).s, .lst .any 6 (rowsV (x0).l), .lst .any 7 (rowsM (x0).m)], .bool b0])]) (by rfl) ?_ ?_
      · ((repeat' apply And.intro) <;> first | trivial | omega | (simp only [List.length_nil, List.length_cons]; omega) | (intro hgd; first | (rw [hgd]; rfl) | (refine ⟨?_, by repeat (first | exact trivial | refine ⟨hgd, ?_⟩)⟩; (repeat' apply And.intro) <;> first | trivial | omega | (intro h2; rw [hgd, h2]; rfl) | skip)) | skip)
      rw [u0]
      (repeat (first | apply AK.seq | apply AK.block | apply AK.blk | apply AK.skip | (refine AK.reg follows_any (rs := []) (by rfl) ?_ ?_; first | exact trivial | exact ⟨trivial, trivial⟩ | exact ⟨trivial, trivial, trivial⟩ | exact ⟨trivial, trivial, trivial, trivial⟩ | fail) | fail))
      refine AK.reg follows_any (rs := []) (by rfl) ?_ ?_
      · ((repeat' apply And.intro) <;> first | trivial | omega | (simp only [List.length_nil, List.length_cons]; omega) | (intro hgd; first | (rw [hgd]; rfl) | (refine ⟨?_, by repeat (first | exact trivial | refine ⟨hgd, ?_⟩)⟩; (repeat' apply And.intro) <;> first | trivial | omega | (intro h2; rw [hgd, h2]; rfl) | skip)) | skip)
      (repeat (first | apply AK.seq | apply AK.block | apply AK.blk | apply AK.skip | (refine AK.reg follows_any (rs := []) (by rfl) ?_ ?_; first | exact trivial | exact ⟨trivial, trivial⟩ | exact ⟨trivial, trivial, trivial⟩ | exact ⟨trivial, trivial, trivial, trivial⟩ | fail) | fail))
      exact AK.lp ⟨1, by omega, Weak.intro ⟨⟨_, rfl, .refl _⟩, ⟨_, rfl, .refl _⟩, ⟨_, rfl, .refl _⟩, ⟨_, rfl, .refl _⟩, ⟨_, rfl, .refl _⟩, ⟨_, rfl, .refl _⟩, trivial⟩ ⟨⟨_, rfl, leL_refl _⟩, ⟨_, rfl, leL_refl _⟩, ⟨_, rfl, leL_refl _⟩, ⟨_, rfl, leL_refl _⟩, trivial⟩ rfl rfl, by omega⟩
    · cases hb
  · (repeat (first | apply AK.seq | apply AK.block | apply AK.blk | apply AK.skip | (refine AK.reg follows_any (rs := []) (by rfl) ?_ ?_; first | exact trivial | exact ⟨trivial, trivial⟩ | exact ⟨trivial, trivial, trivial⟩ | exact ⟨trivial, trivial, trivial, trivial⟩ | fail) | fail))
    refine AK.cond (by rfl) (fun hb => ?_) (fun hb => ?_)
    · (repeat (first | apply AK.seq | apply AK.block | apply AK.blk | apply AK.skip | (refine AK.reg follows_any (rs := []) (by rfl) ?_ ?_; first | exact trivial | exact ⟨trivial, trivial⟩ | exact ⟨trivial, trivial, trivial⟩ | exact ⟨trivial, trivial, trivial, trivial⟩ | fail) | fail))
      refine AK.reg follows_any (rs := [.c [.str kManifest], .v (.tup [.agg [.int .i64 (x1).kind, .bool (x1).b, .int .i64 (x1).n, .str (x1).s, .lst .any 6 (rowsV (x1).l), .lst .any 7 (rowsM (x1).m)], .bool b1])]) (by rfl) ?_ ?_
      · ((repeat' apply And.intro) <;> first | trivial | omega | (simp only [List.length_nil, List.length_cons]; omega) | (intro hgd; first | (rw [hgd]; rfl) | (refine ⟨?_, by repeat (first | exact trivial | refine ⟨hgd, ?_⟩)⟩; (repeat' apply And.intro) <;> first | trivial | omega | (intro h2; rw [hgd, h2]; rfl) | skip)) | skip)
      rw [u1]
      (repeat (first | apply AK.seq | apply AK.block | apply AK.blk | apply AK.skip | (refine AK.reg follows_any (rs := []) (by rfl) ?_ ?_; first | exact trivial | exact ⟨trivial, trivial⟩ | exact ⟨trivial, trivial, trivial⟩ | exact ⟨trivial, trivial, trivial, trivial⟩ | fail) | fail))
      refine AK.reg follows_any (rs := []) (by rfl) ?_ ?_
      · ((repeat' apply And.intro) <;> first | trivial | omega | (simp only [List.length_nil, List.length_cons]; omega) | (intro hgd; first | (rw [hgd]; rfl) | (refine ⟨?_, by repeat (first | exact trivial | refine ⟨hgd, ?_⟩)⟩; (repeat' apply And.intro) <;> first | trivial | omega | (intro h2; rw [hgd, h2]; rfl) | skip)) | skip)
      (repeat (first | apply AK.seq | apply AK.block | apply AK.blk | apply AK.skip | (refine AK.reg follows_any (rs := []) (by rfl) ?_ ?_; first | exact trivial | exact ⟨trivial, trivial⟩ | exact ⟨trivial, trivial, trivial⟩ | exact ⟨trivial, trivial, trivial, trivial⟩ | fail) | fail))
      exact AK.lp ⟨2, by omega, Weak.intro ⟨⟨_, rfl, .refl _⟩, ⟨_, rfl, .refl _⟩, ⟨_, rfl, .refl _⟩, ⟨_, rfl, .refl _⟩, ⟨_, rfl, .refl _⟩, ⟨_, rfl, .refl _⟩, trivial⟩ ⟨⟨_, rfl, leL_refl _⟩, ⟨_, rfl, leL_refl _⟩, ⟨_, rfl, leL_refl _⟩, ⟨_, rfl, leL_refl _⟩, trivial⟩ rfl rfl, by omega⟩
    · cases hb
  · (repeat (first | apply AK.seq | apply AK.block | apply AK.blk | apply AK.skip | (refine AK.reg follows_any (rs := []) (by rfl) ?_ ?_; first | exact trivial | exact ⟨trivial, trivial⟩ | exact ⟨trivial, trivial, trivial⟩ | exact ⟨trivial, trivial, trivial, trivial⟩ | fail) | fail))
    refine AK.cond (by rfl) (fun hb => ?_) (fun hb => ?_)
    · (repeat (first | apply AK.seq | apply AK.block | apply AK.blk | apply AK.skip | (refine AK.reg follows_any (rs := []) (by rfl) ?_ ?_; first | exact trivial | exact ⟨trivial, trivial⟩ | exact ⟨trivial, trivial, trivial⟩ | exact ⟨trivial, trivial, trivial, trivial⟩ | fail) | fail))
      refine AK.reg follows_any (rs := [.c [.str kRelease], .v (.tup [.agg [.int .i64 (x2).kind, .bool (x2).b, .int .i64 (x2).n, .str (x2).s, .lst .any 6 (rowsV (x2).l), .lst .any 7 (rowsM (x2).m)], .bool b2])]) (by rfl) ?_ ?_
      · ((repeat' apply And.intro) <;> first | trivial | omega | (simp only [List.length_nil, List.length_cons]; omega) | (intro hgd; first | (rw [hgd]; rfl) | (refine ⟨?_, by repeat (first | exact trivial | refine ⟨hgd, ?_⟩)⟩; (repeat' apply And.intro) <;> first | trivial | omega | (intro h2; rw [hgd, h2]; rfl) | skip)) | skip)
      rw [u2]
      (repeat (first | apply AK.seq | apply AK.block | apply AK.blk | apply AK.skip | (refine AK.reg follows_any (rs := []) (by rfl) ?_ ?_; first | exact trivial | exact ⟨trivial, trivial⟩ | exact ⟨trivial, trivial, trivial⟩ | exact ⟨trivial, trivial, trivial, trivial⟩ | fail) | fail))
      refine AK.reg follows_any (rs := []) (by rfl) ?_ ?_
      · ((repeat' apply And.intro) <;> first | trivial | omega | (simp only [List.length_nil, List.length_cons]; omega) | (intro hgd; first | (rw [hgd]; rfl) | (refine ⟨?_, by repeat (first | exact trivial | refine ⟨hgd, ?_⟩)⟩; (repeat' apply And.intro) <;> first | trivial | omega | (intro h2; rw [hgd, h2]; rfl) | skip)) | skip)
      (repeat (first | apply AK.seq | apply AK.block | apply AK.blk | apply AK.skip | (refine AK.reg follows_any (rs := []) (by rfl) ?_ ?_; first | exact trivial | exact ⟨trivial, trivial⟩ | exact ⟨trivial, trivial, trivial⟩ | exact ⟨trivial, trivial, trivial, trivial⟩ | fail) | fail))
      exact AK.lp ⟨3, by omega, Weak.intro ⟨⟨_, rfl, .refl _⟩, ⟨_, rfl, .refl _⟩, ⟨_, rfl, .refl _⟩, ⟨_, rfl, .refl _⟩, ⟨_, rfl, .refl _⟩, ⟨_, rfl, .refl _⟩, trivial⟩ ⟨⟨_, rfl, leL_refl _⟩, ⟨_, rfl, leL_refl _⟩, ⟨_, rfl, leL_refl _⟩, ⟨_, rfl, leL_refl _⟩, trivial⟩ rfl rfl, by omega⟩
    · cases hb
  · (repeat (first | apply AK.seq | apply AK.block | apply AK.blk | apply AK.skip | (refine AK.reg follows_any (rs := []) (by rfl) ?_ ?_; first | exact trivial | exact ⟨trivial, trivial⟩ | exact ⟨trivial, trivial, trivial⟩ | exact ⟨trivial, trivial, trivial, trivial⟩ | fail) | fail))
    refine AK.cond (by rfl) (fun hb => ?_) (fun hb => ?_)
    · (repeat (first | apply AK.seq | apply AK.block | apply AK.blk | apply AK.skip | (refine AK.reg follows_any (rs := []) (by rfl) ?_ ?_; first | exact trivial | exact ⟨trivial, trivial⟩ | exact ⟨trivial, trivial, trivial⟩ | exact ⟨trivial, trivial, trivial, trivial⟩ | fail) | fail))
      refine AK.reg follows_any (rs := [.c [.str kValues], .v (.tup [.agg [.int .i64 (x3).kind, .bool (x3).b, .int .i64 (x3).n, .str (x3).s, .lst .any 6 (rowsV (x3).l), .lst .any 7 (rowsM (x3).m)], .bool b3])]) (by rfl) ?_ ?_
      · ((repeat' apply And.intro) <;> first | trivial | omega | (simp only [List.length_nil, List.length_cons]; omega) | (intro hgd; first | (rw [hgd]; rfl) | (refine ⟨?_, by repeat (first | exact trivial | refine ⟨hgd, ?_⟩)⟩; (repeat' apply And.intro) <;> first | trivial | omega | (intro h2; rw [hgd, h2]; rfl) | skip)) | skip)
      rw [u3]
      (repeat (first | apply AK.seq | apply AK.block | apply AK.blk | apply AK.skip | (refine AK.reg follows_any (rs := []) (by rfl) ?_ ?_; first | exact trivial | exact ⟨trivial, trivial⟩ | exact ⟨trivial, trivial, trivial⟩ | exact ⟨trivial, trivial, trivial, trivial⟩ | fail) | fail))
      refine AK.reg follows_any (rs := []) (by rfl) ?_ ?_
      · ((repeat' apply And.intro) <;> first | trivial | omega | (simp only [List.length_nil, List.length_cons]; omega) | (intro hgd; first | (rw [hgd]; rfl) | (refine ⟨?_, by repeat (first | exact trivial | refine ⟨hgd, ?_⟩)⟩; (repeat' apply And.intro) <;> first | trivial | omega | (intro h2; rw [hgd, h2]; rfl) | skip)) | skip)
      (repeat (first | apply AK.seq | apply AK.block | apply AK.blk | apply AK.skip | (refine AK.reg follows_any (rs := []) (by rfl) ?_ ?_; first | exact trivial | exact ⟨trivial, trivial⟩ | exact ⟨trivial, trivial, trivial⟩ | exact ⟨trivial, trivial, trivial, trivial⟩ | fail) | fail))
      exact AK.lp ⟨4, by omega, Weak.intro ⟨⟨_, rfl, .refl _⟩, ⟨_, rfl, .refl _⟩, ⟨_, rfl, .refl _⟩, ⟨_, rfl, .refl _⟩, ⟨_, rfl, .refl _⟩, ⟨_, rfl, .refl _⟩, trivial⟩ ⟨⟨_, rfl, leL_refl _⟩, ⟨_, rfl, leL_refl _⟩, ⟨_, rfl, leL_refl _⟩, ⟨_, rfl, leL_refl _⟩, trivial⟩ rfl rfl, by omega⟩
    · cases hb
  · (repeat (first | apply AK.seq | apply AK.block | apply AK.blk | apply AK.skip | (refine AK.reg follows_any (rs := []) (by rfl) ?_ ?_; first | exact trivial | exact ⟨trivial, trivial⟩ | exact ⟨trivial, trivial, trivial⟩ | exact ⟨trivial, trivial, trivial, trivial⟩ | fail) | fail))
    refine AK.cond (by rfl) (fun hb => ?_) (fun hb => ?_)
    · cases hb
    refine AK.exit rfl ?_
    (repeat (first | apply AK.seq | apply AK.block | apply AK.blk | apply AK.skip | (refine AK.reg follows_any (rs := []) (by rfl) ?_ ?_; first | exact trivial | exact ⟨trivial, trivial⟩ | exact ⟨trivial, trivial, trivial⟩ | exact ⟨trivial, trivial, trivial, trivial⟩ | fail) | fail))
    refine AK.loopI (fun i : Nat => (frOf [(1, .ptr 1 0), (2, .ptr 2 0), (4, .ptr 4 0), (5, .ptr 5 0), (10, .lst .any 1 [[.str kCommand], [.str kRevision], [.str kStatus]]), (11, .int .i64 i)], ⟨boxOf [(1, .str k :: .str s :: .str nm :: [.int .i64 (v).kind, .bool (v).b, .int .i64 (v).n, .str (v).s, .lst .any 6 (rowsV (v).l), .lst .any 7 (rowsM (v).m)], false), (2, rc0, false), (4, [.str r.ch, .str r.ma, .str r.rel, .str r.va], false), (5, [.int .i64 (if 0 < i then r.cmd else 0), .int .i64 (if 1 < i then r.rev else 0), .int .i64 (if 2 < i then r.st else 0)], false)], fun _ => 0⟩)) (fun i => i ≤ 3) (fun i => 3 - i) 0 (by omega) (Weak.intro ⟨⟨_, rfl, .refl _⟩, ⟨_, rfl, .refl _⟩, ⟨_, rfl, .refl _⟩, ⟨_, rfl, .refl _⟩, ⟨_, rfl, .one (.any _ _ _)⟩, ⟨_, rfl, .refl _⟩, trivial⟩ ⟨⟨_, rfl, leL_refl _⟩, ⟨_, rfl, leL_refl _⟩, ⟨_, rfl, leL_refl _⟩, ⟨_, rfl, leL_refl _⟩, trivial⟩ rfl rfl) fun i hi => ?_
    obtain rfl | rfl | rfl | rfl : i = 0 ∨ i = 1 ∨ i = 2 ∨ i = 3 := by omega
    · (repeat (first | apply AK.seq | apply AK.block | apply AK.blk | apply AK.skip | (refine AK.reg follows_any (rs := []) (by rfl) ?_ ?_; first | exact trivial | exact ⟨trivial, trivial⟩ | exact ⟨trivial, trivial, trivial⟩ | exact ⟨trivial, trivial, trivial, trivial⟩ | fail) | fail))
      refine AK.cond (by rfl) (fun hb => ?_) (fun hb => ?_)
      · (repeat (first | apply AK.seq | apply AK.block | apply AK.blk | apply AK.skip | (refine AK.reg follows_any (rs := []) (by rfl) ?_ ?_; first | exact trivial | exact ⟨trivial, trivial⟩ | exact ⟨trivial, trivial, trivial⟩ | exact ⟨trivial, trivial, trivial, trivial⟩ | fail) | fail))
        refine AK.reg follows_any (rs := [.c [.str kCommand], .v (.tup [.agg [.int .i64 (y0).kind, .bool (y0).b, .int .i64 (y0).n, .str (y0).s, .lst .any 6 (rowsV (y0).l), .lst .any 7 (rowsM (y0).m)], .bool c0])]) (by rfl) ?_ ?_
        · ((repeat' apply And.intro) <;> first | trivial | omega | (simp only [List.length_nil, List.length_cons]; omega) | (intro hgd; first | (rw [hgd]; rfl) | (refine ⟨?_, by repeat (first | exact trivial | refine ⟨hgd, ?_⟩)⟩; (repeat' apply And.intro) <;> first | trivial | omega | (intro h2; rw [hgd, h2]; rfl) | skip)) | skip)
        rw [u4]
        (repeat (first | apply AK.seq | apply AK.block | apply AK.blk | apply AK.skip | (refine AK.reg follows_any (rs := []) (by rfl) ?_ ?_; first | exact trivial | exact ⟨trivial, trivial⟩ | exact ⟨trivial, trivial, trivial⟩ | exact ⟨trivial, trivial, trivial, trivial⟩ | fail) | fail))
        refine AK.reg follows_any (rs := []) (by rfl) ?_ ?_
        · ((repeat' apply And.intro) <;> first | trivial | omega | (simp only [List.length_nil, List.length_cons]; omega) | (intro hgd; first | (rw [hgd]; rfl) | (refine ⟨?_, by repeat (first | exact trivial | refine ⟨hgd, ?_⟩)⟩; (repeat' apply And.intro) <;> first | trivial | omega | (intro h2; rw [hgd, h2]; rfl) | skip)) | skip)
        (repeat (first | apply AK.seq | apply AK.block | apply AK.blk | apply AK.skip | (refine AK.reg follows_any (rs := []) (by rfl) ?_ ?_; first | exact trivial | exact ⟨trivial, trivial⟩ | exact ⟨trivial, trivial, trivial⟩ | exact ⟨trivial, trivial, trivial, trivial⟩ | fail) | fail))
        exact AK.lp ⟨1, by omega, Weak.intro ⟨⟨_, rfl, .refl _⟩, ⟨_, rfl, .refl _⟩, ⟨_, rfl, .refl _⟩, ⟨_, rfl, .refl _⟩, ⟨_, rfl, .refl _⟩, ⟨_, rfl, .refl _⟩, trivial⟩ ⟨⟨_, rfl, leL_refl _⟩, ⟨_, rfl, leL_refl _⟩, ⟨_, rfl, leL_refl _⟩, ⟨_, rfl, leL_refl _⟩, trivial⟩ rfl rfl, by omega⟩
      · cases hb
    · (repeat (first | apply AK.seq | apply AK.block | apply AK.blk | apply AK.skip | (refine AK.reg follows_any (rs := []) (by rfl) ?_ ?_; first | exact trivial | exact ⟨trivial, trivial⟩ | exact ⟨trivial, trivial, trivial⟩ | exact ⟨trivial, trivial, trivial, trivial⟩ | fail) | fail))
      refine AK.cond (by rfl) (fun hb => ?_) (fun hb => ?_)
      · (repeat (first | apply AK.seq | apply AK.block | apply AK.blk | apply AK.skip | (refine AK.reg follows_any (rs := []) (by rfl) ?_ ?_; first | exact trivial | exact ⟨trivial, trivial⟩ | exact ⟨trivial, trivial, trivial⟩ | exact ⟨trivial, trivial, trivial, trivial⟩ | fail) | fail))
        refine AK.reg follows_any (rs := [.c [.str kRevision], .v (.tup [.agg [.int .i64 (y1).kind, .bool (y1).b, .int .i64 (y1).n, .str (y1).s, .lst .any 6 (rowsV (y1).l), .lst .any 7 (rowsM (y1).m)], .bool c1])]) (by rfl) ?_ ?_
        · ((repeat' apply And.intro) <;> first | trivial | omega | (simp only [List.length_nil, List.length_cons]; omega) | (intro hgd; first | (rw [hgd]; rfl) | (refine ⟨?_, by repeat (first | exact trivial | refine ⟨hgd, ?_⟩)⟩; (repeat' apply And.intro) <;> first | trivial | omega | (intro h2; rw [hgd, h2]; rfl) | skip)) | skip)
        rw [u5]
        (repeat (first | apply AK.seq | apply AK.block | apply AK.blk | apply AK.skip | (refine AK.reg follows_any (rs := []) (by rfl) ?_ ?_; first | exact trivial | exact ⟨trivial, trivial⟩ | exact ⟨trivial, trivial, trivial⟩ | exact ⟨trivial, trivial, trivial, trivial⟩ | fail) | fail))
        refine AK.reg follows_any (rs := []) (by rfl) ?_ ?_
        · ((repeat' apply And.intro) <;> first | trivial | omega | (simp only [List.length_nil, List.length_cons]; omega) | (intro hgd; first | (rw [hgd]; rfl) | (refine ⟨?_, by repeat (first | exact trivial | refine ⟨hgd, ?_⟩)⟩; (repeat' apply And.intro) <;> first | trivial | omega | (intro h2; rw [hgd, h2]; rfl) | skip)) | skip)
        (repeat (first | apply AK.seq | apply AK.block | apply AK.blk | apply AK.skip | (refine AK.reg follows_any (rs := []) (by rfl) ?_ ?_; first | exact trivial | exact ⟨trivial, trivial⟩ | exact ⟨trivial, trivial, trivial⟩ | exact ⟨trivial, trivial, trivial, trivial⟩ | fail) | fail))
        exact AK.lp ⟨2, by omega, Weak.intro ⟨⟨_, rfl, .refl _⟩, ⟨_, rfl, .refl _⟩, ⟨_, rfl, .refl _⟩, ⟨_, rfl, .refl _⟩, ⟨_, rfl, .refl _⟩, ⟨_, rfl, .refl _⟩, trivial⟩ ⟨⟨_, rfl, leL_refl _⟩, ⟨_, rfl, leL_refl _⟩, ⟨_, rfl, leL_refl _⟩, ⟨_, rfl, leL_refl _⟩, trivial⟩ rfl rfl, by omega⟩
      · cases hb
    · (repeat (first | apply AK.seq | apply AK.block | apply AK.blk | apply AK.skip | (refine AK.reg follows_any (rs := []) (by rfl) ?_ ?_; first | exact trivial | exact ⟨trivial, trivial⟩ | exact ⟨trivial, trivial, trivial⟩ | exact ⟨trivial, trivial, trivial, trivial⟩ | fail) | fail))
      refine AK.cond (by rfl) (fun hb => ?_) (fun hb => ?_)
      · (repeat (first | apply AK.seq | apply AK.block | apply AK.blk | apply AK.skip | (refine AK.reg follows_any (rs := []) (by rfl) ?_ ?_; first | exact trivial | exact ⟨trivial, trivial⟩ | exact ⟨trivial, trivial, trivial⟩ | exact ⟨trivial, trivial, trivial, trivial⟩ | fail) | fail))
        refine AK.reg follows_any (rs := [.c [.str kStatus], .v (.tup [.agg [.int .i64 (y2).kind, .bool (y2).b, .int .i64 (y2).n, .str (y2).s, .lst .any 6 (rowsV (y2).l), .lst .any 7 (rowsM (y2).m)], .bool c2])]) (by rfl) ?_ ?_
        · ((repeat' apply And.intro) <;> first | trivial | omega | (simp only [List.length_nil, List.length_cons]; omega) | (intro hgd; first | (rw [hgd]; rfl) | (refine ⟨?_, by repeat (first | exact trivial | refine ⟨hgd, ?_⟩)⟩; (repeat' apply And.intro) <;> first | trivial | omega | (intro h2; rw [hgd, h2]; rfl) | skip)) | skip)
        rw [u6]
        (repeat (first | apply AK.seq | apply AK.block | apply AK.blk | apply AK.skip | (refine AK.reg follows_any (rs := []) (by rfl) ?_ ?_; first | exact trivial | exact ⟨trivial, trivial⟩ | exact ⟨trivial, trivial, trivial⟩ | exact ⟨trivial, trivial, trivial, trivial⟩ | fail) | fail))
        refine AK.reg follows_any (rs := []) (by rfl) ?_ ?_
        · ((repeat' apply And.intro) <;> first | trivial | omega | (simp only [List.length_nil, List.length_cons]; omega) | (intro hgd; first | (rw [hgd]; rfl) | (refine ⟨?_, by repeat (first | exact trivial | refine ⟨hgd, ?_⟩)⟩; (repeat' apply And.intro) <;> first | trivial | omega | (intro h2; rw [hgd, h2]; rfl) | skip)) | skip)
        (repeat (first | apply AK.seq | apply AK.block | apply AK.blk | apply AK.skip | (refine AK.reg follows_any (rs := []) (by rfl) ?_ ?_; first | exact trivial | exact ⟨trivial, trivial⟩ | exact ⟨trivial, trivial, trivial⟩ | exact ⟨trivial, trivial, trivial, trivial⟩ | fail) | fail))
        exact AK.lp ⟨3, by omega, Weak.intro ⟨⟨_, rfl, .refl _⟩, ⟨_, rfl, .refl _⟩, ⟨_, rfl, .refl _⟩, ⟨_, rfl, .refl _⟩, ⟨_, rfl, .refl _⟩, ⟨_, rfl, .refl _⟩, trivial⟩ ⟨⟨_, rfl, leL_refl _⟩, ⟨_, rfl, leL_refl _⟩, ⟨_, rfl, leL_refl _⟩, ⟨_, rfl, leL_refl _⟩, trivial⟩ rfl rfl, by omega⟩
      · cases hb
    · (repeat (first | apply AK.seq | apply AK.block | apply AK.blk | apply AK.skip | (refine AK.reg follows_any (rs := []) (by rfl) ?_ ?_; first | exact trivial | exact ⟨trivial, trivial⟩ | exact ⟨trivial, trivial, trivial⟩ | exact ⟨trivial, trivial, trivial, trivial⟩ | fail) | fail))
      refine AK.cond (by rfl) (fun hb => ?_) (fun hb => ?_)
      · cases hb
      refine AK.exit rfl ?_
      (repeat (first | apply AK.seq | apply AK.block | apply AK.blk | apply AK.skip | (refine AK.reg follows_any (rs := []) (by rfl) ?_ ?_; first | exact trivial | exact ⟨trivial, trivial⟩ | exact ⟨trivial, trivial, trivial⟩ | exact ⟨trivial, trivial, trivial, trivial⟩ | fail) | fail))
      refine AK.reg follows_any (rs := []) (by rfl) ?_ ?_
      · ((repeat' apply And.intro) <;> first | trivial | omega | (simp only [List.length_nil, List.length_cons]; omega) | (intro hgd; first | (rw [hgd]; rfl) | (refine ⟨?_, by repeat (first | exact trivial | refine ⟨hgd, ?_⟩)⟩; (repeat' apply And.intro) <;> first | trivial | omega | (intro h2; rw [hgd, h2]; rfl) | skip)) | skip)
      (repeat (first | apply AK.seq | apply AK.block | apply AK.blk | apply AK.skip | (refine AK.reg follows_any (rs := []) (by rfl) ?_ ?_; first | exact trivial | exact ⟨trivial, trivial⟩ | exact ⟨trivial, trivial, trivial⟩ | exact ⟨trivial, trivial, trivial, trivial⟩ | fail) | fail))
      refine AK.reg follows_any (rs := [.v (.bool (rcOk r)), .v (.agg [.str hidB, .str defB, .str (idB r.rel r.rev.toNat)]), .v (.agg [.int .i64 (x).kind, .bool (x).b, .int .i64 (x).n, .str (x).s, .lst .any 6 (rowsV (x).l), .lst .any 7 (rowsM (x).m)]), .v (.bool (x.sameB v))]) (by rfl) ?_ ?_
      · ((repeat' apply And.intro) <;> first | trivial | omega | (simp only [List.length_nil, List.length_cons]; omega) | (intro hgd; first | (rw [hgd]; rfl) | (refine ⟨?_, by repeat (first | exact trivial | refine ⟨hgd, ?_⟩)⟩; (repeat' apply And.intro) <;> first | trivial | omega | (intro h2; rw [hgd, h2]; rfl) | skip)) | skip)
        all_goals first | exact hID (by simp [gd] at hgd; simp_all) | exact eqID_any true _ _ _ _ _ _ | exact hE | exact hS | skip
      refine AK.cond (by rfl) (fun hb => ?_) (fun hb => ?_)
      · have hd0 : d = false := by
          rw [Bool.eq_false_iff]
          intro h
          obtain ⟨q1, q2, q3, q4, q5⟩ := hdi.1 (hd.1 h)
          have q8 := hv.2 q2
          rw [q1, q8, eqCells_id.2 ⟨q3, q4, q5⟩] at hb
          cases hb
        rw [hd0]
        (repeat (first | apply AK.seq | apply AK.block | apply AK.blk | apply AK.skip | (refine AK.reg follows_any (rs := []) (by rfl) ?_ ?_; first | exact trivial | exact ⟨trivial, trivial⟩ | exact ⟨trivial, trivial, trivial⟩ | exact ⟨trivial, trivial, trivial, trivial⟩ | fail) | fail))
        refine AK.ret ⟨_, rfl, ?_⟩
        rfl
      · have hd1 : d = true := by
          simp only [Bool.or_eq_false_iff, Bool.not_eq_false'] at hb
          obtain ⟨⟨b1, b2⟩, b3⟩ := hb
          obtain ⟨q3, q4, q5⟩ := eqCells_id.1 b2
          exact hd.2 (hdi.2 ⟨b1, hv.1 b3, q3, q4, q5⟩)
        rw [hd1]
        (repeat (first | apply AK.seq | apply AK.block | apply AK.blk | apply AK.skip | (refine AK.reg follows_any (rs := []) (by rfl) ?_ ?_; first | exact trivial | exact ⟨trivial, trivial⟩ | exact ⟨trivial, trivial, trivial⟩ | exact ⟨trivial, trivial, trivial, trivial⟩ | fail) | fail))
        refine AK.ret ⟨_, rfl, ?_⟩
        rfl
end Go.Proofs.YtgcodocajgdmcaaGreatDoor
