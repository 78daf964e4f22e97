/-
  The texts that the claim wants, one behind the other: part 38.
-/
import Derived.Test.YtgidajjjpeboeaaGreatDoorS37
set_option linter.unusedSimpArgs false
set_option linter.unusedVariables false
namespace Go.Proofs.YtgidajjjpeboeaaGreatDoor
open Go.RowKit
def mval (key : ByteArray) (v : V) : V := (mfind key v.m).getD V.null
theorem mval_some {key : ByteArray} {v x : V} (h : mfind key v.m = some x) : mval key v = x := by rw [mval, h]; rfl
theorem mval_none {key : ByteArray} {v : V} (h : mfind key v.m = none) : mval key v = V.null := by rw [mval, h]; rfl
theorem mval_sb {key : ByteArray} {v : V} (h : v.sb) : (mval key v).s.size ≤ 140737488355328 := by
 cases hf : mfind key v.m with
 | none => rw [mval_none hf]; decide
 | some x =>
  rw [mval_some hf]
  have hm := mem_of_mfind hf
  exact ((V.sb_eq x).1 ((sbM_iff _).1 ((V.sb_eq v).1 h).2.2.2 _ hm).2).1
theorem textM_a (a b c : ByteArray) (v : V) (key : ByteArray) (hg : v.good) (hsz : v.size ≤ 1000000000000) : AC Tryz.prog 83 [.str key, .ro (.str a :: .str b :: .str c :: (vC (v)))] (.str (mval key v).s) := by
 cases hf : mfind key v.m with
 | some x => rw [mval_some hf]; exact text_a a b c v x key hg hsz hf
 | none =>
  rw [mval_none hf]
  have hG := treeGet_none clone_ok hg hsz hf
  refine kE Tryz.func83 a_record_Decode_1_ok a_record_Decode_1_cb fun E hE => ?_
  refine kW ?_
  refine kQ [.v nullAV] ?_
  refine kW ?_
  refine AK.ret ⟨_, rfl, ?_⟩
  rfl
theorem numberM_a (a b c : ByteArray) (v : V) (key : ByteArray) (hg : v.good) (hsz : v.size ≤ 1000000000000) : AC Tryz.prog 85 [.str key, .ro (.str a :: .str b :: .str c :: (vC (v)))] (.int .i64 (mval key v).n) := by
 cases hf : mfind key v.m with
 | some x => rw [mval_some hf]; exact recNum_a a b c v x key hg hsz hf
 | none =>
  rw [mval_none hf]
  have hG := treeGet_none clone_ok hg hsz hf
  refine kE Tryz.func85 a_record_Decode_2_ok a_record_Decode_2_cb fun E hE => ?_
  refine kW ?_
  refine kQ [.v nullAV] ?_
  refine kW ?_
  refine AK.ret ⟨_, rfl, ?_⟩
  rfl
def rcOf (v : V) : Rc := ⟨(mval kRelease v).s, (mval kRevision v).n, (mval kStatus v).n, (mval kCommand v).n, (mval kChart v).s, (mval kValues v).s, (mval kManifest v).s⟩
theorem rcOf_sz {v : V} (h : v.sb) : (rcOf v).sz := ⟨mval_sb h, mval_sb h, mval_sb h, mval_sb h⟩
def DecOk (k s nm : ByteArray) (v : V) : Prop := rcOk (rcOf v) = true ∧ recV (rcOf v) = v ∧ k = hidB ∧ s = defB ∧ nm = idB (rcOf v).rel (rcOf v).rev.toNat
theorem decOk_own {k s nm : ByteArray} {v : V} (h : DecOk k s nm v) : ownP k s nm = some ((rcOf v).rel, (rcOf v).rev.toNat) := by
 obtain ⟨h1, h2, h3, h4, h5⟩ := h
 simp only [rcOk, Bool.and_eq_true, decide_eq_true_eq] at h1
 obtain ⟨hn, ⟨⟨⟨⟨⟨r1, r2⟩, _⟩, _⟩, _⟩, _⟩, _⟩ := h1
 exact ownP_some ⟨hn, by dsimp only; omega, by dsimp only; omega, h3, h4, h5⟩
set_option maxHeartbeats 1000000 in
theorem decodeM_a (k s nm : ByteArray) (v : V) (hg : v.good) (hsz : v.size ≤ 1000000000000) (hsb : v.sb) (hnm : nm.size ≤ 1000000) (d : Bool) (hd : d = true ↔ DecOk k s nm v) :
  AC Tryz.prog 51 [.agg ([.str k, .str s, .str nm] ++ (vC (v)))] (if d = true then .tup [.agg (rcA (rcOf v)), .int .i64 0] else .tup [.agg rc0, .int .i64 35]) := by
 have hO := owner_any k s nm hnm
 have hE := encode_a (rcOf v)
 have hR := recRight_a (rcOf v) (rcOf_sz hsb)
 have hS : rcOk (rcOf v) = true → _ := fun h => treeSame_a (recV (rcOf v)) v (rec_good h) hg (by rw [rec_size]; omega) (by omega)
 have hv : (recV (rcOf v)).sameB v = true ↔ recV (rcOf v) = v := V.sameB_true
 have t1 := textM_a k s nm v kRelease hg hsz
 have t2 := numberM_a k s nm v kRevision hg hsz
 have t3 := numberM_a k s nm v kStatus hg hsz
 have t4 := numberM_a k s nm v kCommand hg hsz
 have t5 := textM_a k s nm v kChart hg hsz
 have t6 := textM_a k s nm v kValues hg hsz
 have t7 := textM_a k s nm v kManifest hg hsz
 obtain ⟨r, hr⟩ : ∃ r, r = rcOf v := ⟨_, rfl⟩
 have u1 : (mval kRelease v).s = r.rel := by rw [hr]; rfl
 have u2 : (mval kRevision v).n = r.rev := by rw [hr]; rfl
 have u3 : (mval kStatus v).n = r.st := by rw [hr]; rfl
 have u4 : (mval kCommand v).n = r.cmd := by rw [hr]; rfl
 have u5 : (mval kChart v).s = r.ch := by rw [hr]; rfl
 have u6 : (mval kValues v).s = r.va := by rw [hr]; rfl
 have u7 : (mval kManifest v).s = r.ma := by rw [hr]; rfl
 have hdo : DecOk k s nm v → ownP k s nm = some (r.rel, r.rev.toNat) := fun h => by rw [hr]; exact decOk_own h
 have hdi : DecOk k s nm v ↔ (rcOk r = true ∧ recV r = v ∧ k = hidB ∧ s = defB ∧ nm = idB r.rel r.rev.toNat) := by rw [hr]; rfl
 rw [u1] at t1; rw [u2] at t2; rw [u3] at t3; rw [u4] at t4; rw [u5] at t5; rw [u6] at t6; rw [u7] at t7
 rw [← hr] at hE hR hS hv ⊢
 clear u1 u2 u3 u4 u5 u6 u7 hr
 generalize hx : recV r = x at *
 cases ho : ownP k s nm with
 | none =>
  rw [ho] at hO
  have hd0 : d = false := by
   rw [Bool.eq_false_iff]
   intro h
   have := hdo (hd.1 h)
   rw [ho] at this
   cases this
  rw [hd0]
  clear hx hd hdo hdi hv hd0 ho
  refine kE Tryz.func51 a_record_Decode_ok a_record_Decode_cb fun E hE => ?_
  refine kW ?_
  refine kP [.v (.str r.rel), .v (.int .i64 r.rev), .v (.int .i64 r.st), .v (.int .i64 r.cmd), .v (.str r.ch), .v (.str r.va), .v (.str r.ma)] ?_ ?_
  ·((repeat' apply And.intro) <;> first | exact kD | (intro hgd; refine ⟨?_, kG⟩; (repeat' apply And.intro) <;> first | exact kD | skip) | skip)
   all_goals first | exact t1 | exact t2 | exact t3 | exact t4 | exact t5 | exact t6 | exact t7 | skip
  refine kW ?_
  refine kQ [.v (ownAV none)] ?_
  refine kW ?_
  refine kP [.v (.bool (rcOk r)), .v ((vA (x))), .v (.bool (x.sameB v))] ?_ ?_
  ·((repeat' apply And.intro) <;> first | exact kD | (intro hgd; refine ⟨?_, kG⟩; (repeat' apply And.intro) <;> first | exact kD | skip) | skip)
   all_goals first | exact hE | exact hR | exact hS (by simp [gd] at hgd) | skip
  refine kC (fun hb => ?_) fun hb => ?_
  ·refine kW ?_
   refine AK.ret ⟨_, rfl, ?_⟩
   rfl
  ·exact absurd hb (by simp)
 | some p =>
  obtain ⟨rel, n⟩ := p
  rw [ho] at hO
  have hP := ownP_iff.1 ho
  obtain ⟨p1, p2, p3, p4, p5, p6⟩ := hP
  dsimp only at p1 p2 p3 p6
  clear hdo
  refine kE Tryz.func51 a_record_Decode_ok a_record_Decode_cb fun E hE => ?_
  refine kW ?_
  refine kP [.v (.str r.rel), .v (.int .i64 r.rev), .v (.int .i64 r.st), .v (.int .i64 r.cmd), .v (.str r.ch), .v (.str r.va), .v (.str r.ma)] ?_ ?_
  ·((repeat' apply And.intro) <;> first | exact kD | (intro hgd; refine ⟨?_, kG⟩; (repeat' apply And.intro) <;> first | exact kD | skip) | skip)
   all_goals first | exact t1 | exact t2 | exact t3 | exact t4 | exact t5 | exact t6 | exact t7 | skip
  refine kW ?_
  refine kQ [.v (.tup [.str rel, .int .i64 n, .bool true])] ?_
  refine kW ?_
  refine kP [.v (.bool (rcOk r)), .v ((vA (x))), .v (.bool (x.sameB v))] ?_ ?_
  ·((repeat' apply And.intro) <;> first | exact kD | (intro hgd; refine ⟨?_, kG⟩; (repeat' apply And.intro) <;> first | exact kD | skip) | skip)
   all_goals first | exact hE | exact hR | exact hS (by simp [gd] at hgd; simp_all) | skip
  refine kC (fun hb => ?_) fun hb => ?_
  ·have hd0 : d = false := by
    rw [Bool.eq_false_iff]
    intro h
    obtain ⟨q1, q2, _, _, q5⟩ := hdi.1 (hd.1 h)
    have q1b := q1
    simp only [rcOk, Bool.and_eq_true, decide_eq_true_eq] at q1b
    obtain ⟨_, ⟨⟨⟨⟨⟨q3, _⟩, _⟩, _⟩, _⟩, _⟩, _⟩ := q1b
    obtain ⟨q6, q7⟩ := idB_inj2 (p6.symm.trans q5)
    have q8 := hv.2 q2
    have q9 : (n : Int) = r.rev := by omega
    simp [q1, q6, q8, q9] at hb
   rw [hd0]
   refine kW ?_
   refine AK.ret ⟨_, rfl, ?_⟩
   rfl
  ·have hd1 : d = true := by
    simp only [Bool.or_eq_false_iff, Bool.not_eq_false', decide_eq_true_eq] at hb
    obtain ⟨⟨⟨⟨_, b1⟩, b2⟩, b3⟩, b4⟩ := hb
    refine hd.2 (hdi.2 ⟨b3, hv.1 b4, p4, p5, ?_⟩)
    rw [p6, b1, ← b2]
    rfl
   rw [hd1]
   refine kW ?_
   refine AK.ret ⟨_, rfl, ?_⟩
   rfl
end Go.Proofs.YtgidajjjpeboeaaGreatDoor
/-
 The document's Decode of any object, walked.
-/
namespace Go.Proofs.YtgidajjjpeboeaaGreatDoor
open Go.RowKit
theorem refStr_a (s : ByteArray) : AC Tryz.prog 160 [.str s] ((vA ((V.str s)))) := by
 refine kE Tryz.func160 a_ref17_str_ok a_ref17_str_cb fun E hE => ?_
 refine kW ?_
 refine AK.ret ⟨_, rfl, ?_⟩
 rfl
theorem refNum_a (n : Int) : AC Tryz.prog 161 [.int .i64 n] ((vA ((V.int n)))) := by
 refine kE Tryz.func161 a_ref17_num_ok a_ref17_num_cb fun E hE => ?_
 refine kW ?_
 refine AK.ret ⟨_, rfl, ?_⟩
 rfl
theorem refEncode_a (r : Rc) : AC Tryz.prog 100 [.agg (rcA r)] ((vA ((recV r)))) := by
 refine kE Tryz.func100 a_ref17_Encode_ok a_ref17_Encode_cb fun E hE => ?_
 refine kW ?_
 refine kP [.v ((vA ((V.str r.ch)))), .v ((vA ((V.int r.cmd)))), .v ((vA ((V.str r.ma)))), .v ((vA ((V.str r.rel)))), .v ((vA ((V.int r.rev)))), .v ((vA ((V.int r.st)))), .v ((vA ((V.str r.va))))] ?_ ?_
 ·((repeat' apply And.intro) <;> first | exact kD | (intro hgd; refine ⟨?_, kG⟩; (repeat' apply And.intro) <;> first | exact kD | skip) | skip)
  all_goals first | exact refStr_a _ | exact refNum_a _ | skip
 refine kW ?_
 refine AK.ret ⟨_, rfl, ?_⟩
 rfl
theorem refMval_a (v : V) (key : ByteArray) (hsz : v.size ≤ 2000000000000) : ∃ (x : V) (b : Bool), AC Tryz.prog 98 [(vA (v)), .str key] (.tup [(vA (x)), .bool b]) ∧ x.s = (mval key v).s ∧ x.n = (mval key v).n := by
 have h := refGet_a v key hsz
 cases hf : mfind key v.m with
 | none =>
  rw [hf] at h
  refine ⟨V.null, false, ?_, by rw [mval_none hf], by rw [mval_none hf]⟩
  exact h
 | some x =>
  rw [hf] at h
  refine ⟨x, true, h, by rw [mval_some hf], by rw [mval_some hf]⟩
set_option maxHeartbeats 2000000 in
theorem refDecodeM_a (k s nm : ByteArray) (v : V) (hsz : v.size ≤ 1000000000000) (hsb : v.sb) (d : Bool) (hd : d = true ↔ DecOk k s nm v) :
  AC Tryz.prog 59 [.agg ([.str k, .str s, .str nm] ++ (vC (v)))] (if d = true then .tup [.agg (rcA (rcOf v)), .bool true] else .tup [.agg rc0, .bool false]) := by
 obtain ⟨x0, b0, g0, e0, _⟩ := refMval_a v kChart (by omega)
 obtain ⟨x1, b1, g1, e1, _⟩ := refMval_a v kManifest (by omega)
 obtain ⟨x2, b2, g2, e2, _⟩ := refMval_a v kRelease (by omega)
 obtain ⟨x3, b3, g3, e3, _⟩ := refMval_a v kValues (by omega)
 obtain ⟨y0, c0, h0, _, f0⟩ := refMval_a v kCommand (by omega)
 obtain ⟨y1, c1, h1, _, f1⟩ := refMval_a v kRevision (by omega)
 obtain ⟨y2, c2, h2, _, f2⟩ := refMval_a v kStatus (by omega)
 have hE := refEncode_a (rcOf v)
 have hR := refRRight_a (rcOf v) (rcOf_sz hsb)
 have hS := refSame_a (recV (rcOf v)).size (recV (rcOf v)) v (Nat.le_refl _) (by rw [rec_size]; omega)
 have hv : (recV (rcOf v)).sameB v = true ↔ recV (rcOf v) = v := V.sameB_true
 have hID : rcOk (rcOf v) = true → AC Tryz.prog 61 [.str (rcOf v).rel, .int .i64 (rcOf v).rev] (.agg [.str hidB, .str defB, .str (idB (rcOf v).rel (rcOf v).rev.toNat)]) := fun h => by
  simp only [rcOk, Bool.and_eq_true, decide_eq_true_eq] at h
  obtain ⟨hn, ⟨⟨⟨⟨⟨r1, r2⟩, _⟩, _⟩, _⟩, _⟩, _⟩ := h
  have := refID_a (rcOf v).rel (rcOf v).rev.toNat (rcOf_sz hsb).1 (by omega)
  rw [show (((rcOf v).rev.toNat : Nat) : Int) = (rcOf v).rev by omega] at this
  exact this
 obtain ⟨r, hr⟩ : ∃ r, r = rcOf v := ⟨_, rfl⟩
 have u0 : x0.s = r.ch := by rw [e0, hr]; rfl
 have u1 : x1.s = r.ma := by rw [e1, hr]; rfl
 have u2 : x2.s = r.rel := by rw [e2, hr]; rfl
 have u3 : x3.s = r.va := by rw [e3, hr]; rfl
 have u4 : y0.n = r.cmd := by rw [f0, hr]; rfl
 have u5 : y1.n = r.rev := by rw [f1, hr]; rfl
 have u6 : y2.n = r.st := by rw [f2, hr]; rfl
 have hdi : DecOk k s nm v ↔ (rcOk r = true ∧ recV r = v ∧ k = hidB ∧ s = defB ∧ nm = idB r.rel r.rev.toNat) := by rw [hr]; rfl
 rw [← hr] at hE hR hS hv hID ⊢
 clear e0 e1 e2 e3 f0 f1 f2 hr
 generalize hx : recV r = x at *
 refine kE Tryz.func59 a_ref17_Decode_ok a_ref17_Decode_cb fun E hE => ?_
 refine kW ?_
 refine AK.loopI (fun i : Nat => (frOf [(1, .ptr 1 0), (2, .ptr 2 0), (4, .ptr 4 0), (5, .ptr 5 0), (6, .lst .any 1 [[.str kChart], [.str kManifest], [.str kRelease], [.str kValues]]), (7, .int .i64 i)], ⟨boxOf [(1, .str k :: .str s :: .str nm :: (vC (v)), false), (2, rc0, false), (4, [.str (if 0 < i then r.ch else ⟨#[]⟩), .str (if 1 < i then r.ma else ⟨#[]⟩), .str (if 2 < i then r.rel else ⟨#[]⟩), .str (if 3 < i then r.va else ⟨#[]⟩)], false), (5, [.int .i64 0, .int .i64 0, .int .i64 0], false)], fun _ => 0⟩)) (fun i => i ≤ 4) (fun i => 4 - i) 0 (by omega) (Weak.intro ⟨kI, kI, kI, kI, ⟨_, rfl, .one (.any _ _ _)⟩, kI, trivial⟩ ⟨kJ, kJ, kJ, kJ, trivial⟩ rfl rfl) fun i hi => ?_
 obtain rfl | rfl | rfl | rfl | rfl : i = 0 ∨ i = 1 ∨ i = 2 ∨ i = 3 ∨ i = 4 := by omega
 ·refine kW ?_
  refine kC (fun hb => ?_) fun hb => ?_
  ·refine kW ?_
   refine kQ [.c [.str kChart], .v (.tup [(vA (x0)), .bool b0])] ?_
   rw [u0]
   refine kW ?_
   refine kQ [] ?_
   refine kW ?_
   exact AK.lp ⟨1, by omega, Weak.intro ⟨kI, kI, kI, kI, kI, kI, trivial⟩ ⟨kJ, kJ, kJ, kJ, trivial⟩ rfl rfl, by omega⟩
  ·cases hb
 ·refine kW ?_
  refine kC (fun hb => ?_) fun hb => ?_
  ·refine kW ?_
   refine kQ [.c [.str kManifest], .v (.tup [(vA (x1)), .bool b1])] ?_
   rw [u1]
   refine kW ?_
   refine kQ [] ?_
   refine kW ?_
   exact AK.lp ⟨2, by omega, Weak.intro ⟨kI, kI, kI, kI, kI, kI, trivial⟩ ⟨kJ, kJ, kJ, kJ, trivial⟩ rfl rfl, by omega⟩
  ·cases hb
 ·refine kW ?_
  refine kC (fun hb => ?_) fun hb => ?_
  ·refine kW ?_
   refine kQ [.c [.str kRelease], .v (.tup [(vA (x2)), .bool b2])] ?_
   rw [u2]
   refine kW ?_
   refine kQ [] ?_
   refine kW ?_
   exact AK.lp ⟨3, by omega, Weak.intro ⟨kI, kI, kI, kI, kI, kI, trivial⟩ ⟨kJ, kJ, kJ, kJ, trivial⟩ rfl rfl, by omega⟩
  ·cases hb
 ·refine kW ?_
  refine kC (fun hb => ?_) fun hb => ?_
  ·refine kW ?_
   refine kQ [.c [.str kValues], .v (.tup [(vA (x3)), .bool b3])] ?_
   rw [u3]
   refine kW ?_
   refine kQ [] ?_
   refine kW ?_
   exact AK.lp ⟨4, by omega, Weak.intro ⟨kI, kI, kI, kI, kI, kI, trivial⟩ ⟨kJ, kJ, kJ, kJ, trivial⟩ rfl rfl, by omega⟩
  ·cases hb
 ·refine kW ?_
  refine kC (fun hb => ?_) fun hb => ?_
  ·cases hb
  refine AK.exit rfl ?_
  refine kW ?_
  refine AK.loopI (fun i : Nat => (frOf [(1, .ptr 1 0), (2, .ptr 2 0), (4, .ptr 4 0), (5, .ptr 5 0), (10, .lst .any 1 [[.str kCommand], [.str kRevision], [.str kStatus]]), (11, .int .i64 i)], ⟨boxOf [(1, .str k :: .str s :: .str nm :: (vC (v)), false), (2, rc0, false), (4, [.str r.ch, .str r.ma, .str r.rel, .str r.va], false), (5, [.int .i64 (if 0 < i then r.cmd else 0), .int .i64 (if 1 < i then r.rev else 0), .int .i64 (if 2 < i then r.st else 0)], false)], fun _ => 0⟩)) (fun i => i ≤ 3) (fun i => 3 - i) 0 (by omega) (Weak.intro ⟨kI, kI, kI, kI, ⟨_, rfl, .one (.any _ _ _)⟩, kI, trivial⟩ ⟨kJ, kJ, kJ, kJ, trivial⟩ rfl rfl) fun i hi => ?_
  obtain rfl | rfl | rfl | rfl : i = 0 ∨ i = 1 ∨ i = 2 ∨ i = 3 := by omega
  ·refine kW ?_
   refine kC (fun hb => ?_) fun hb => ?_
   ·refine kW ?_
    refine kQ [.c [.str kCommand], .v (.tup [(vA (y0)), .bool c0])] ?_
    rw [u4]
    refine kW ?_
    refine kQ [] ?_
    refine kW ?_
    exact AK.lp ⟨1, by omega, Weak.intro ⟨kI, kI, kI, kI, kI, kI, trivial⟩ ⟨kJ, kJ, kJ, kJ, trivial⟩ rfl rfl, by omega⟩
   ·cases hb
  ·refine kW ?_
   refine kC (fun hb => ?_) fun hb => ?_
   ·refine kW ?_
    refine kQ [.c [.str kRevision], .v (.tup [(vA (y1)), .bool c1])] ?_
    rw [u5]
    refine kW ?_
    refine kQ [] ?_
    refine kW ?_
    exact AK.lp ⟨2, by omega, Weak.intro ⟨kI, kI, kI, kI, kI, kI, trivial⟩ ⟨kJ, kJ, kJ, kJ, trivial⟩ rfl rfl, by omega⟩
   ·cases hb
  ·refine kW ?_
   refine kC (fun hb => ?_) fun hb => ?_
   ·refine kW ?_
    refine kQ [.c [.str kStatus], .v (.tup [(vA (y2)), .bool c2])] ?_
    rw [u6]
    refine kW ?_
    refine kQ [] ?_
    refine kW ?_
    exact AK.lp ⟨3, by omega, Weak.intro ⟨kI, kI, kI, kI, kI, kI, trivial⟩ ⟨kJ, kJ, kJ, kJ, trivial⟩ rfl rfl, by omega⟩
   ·cases hb
  ·refine kW ?_
   refine kC (fun hb => ?_) fun hb => ?_
   ·cases hb
   refine AK.exit rfl ?_
   refine kW ?_
   refine kQ [] ?_
   refine kW ?_
   refine kP [.v (.bool (rcOk r)), .v (.agg [.str hidB, .str defB, .str (idB r.rel r.rev.toNat)]), .v ((vA (x))), .v (.bool (x.sameB v))] ?_ ?_
   ·((repeat' apply And.intro) <;> first | exact kD | (intro hgd; refine ⟨?_, kG⟩; (repeat' apply And.intro) <;> first | exact kD | skip) | skip)
    all_goals first | exact hID (by simp [gd] at hgd; simp_all) | exact eqID_any true _ _ _ _ _ _ | exact hE | exact hS | skip
   refine kC (fun hb => ?_) fun hb => ?_
   ·have hd0 : d = false := by
     rw [Bool.eq_false_iff]
     intro h
     obtain ⟨q1, q2, q3, q4, q5⟩ := hdi.1 (hd.1 h)
     have q8 := hv.2 q2
     rw [q1, q8, eqCells_id.2 ⟨q3, q4, q5⟩] at hb
     cases hb
    rw [hd0]
    refine kW ?_
    refine AK.ret ⟨_, rfl, ?_⟩
    rfl
   ·have hd1 : d = true := by
     simp only [Bool.or_eq_false_iff, Bool.not_eq_false'] at hb
     obtain ⟨⟨b1, b2⟩, b3⟩ := hb
     obtain ⟨q3, q4, q5⟩ := eqCells_id.1 b2
     exact hd.2 (hdi.2 ⟨b1, hv.1 b3, q3, q4, q5⟩)
    rw [hd1]
    refine kW ?_
    refine AK.ret ⟨_, rfl, ?_⟩
    rfl
open Classical in
noncomputable def ownIs (rel : ByteArray) (o : Ob) : Bool := match ownP o.k o.s o.n with
 | some p => decide (p.1 = rel)
 | none => false
open Classical in
noncomputable def decB (o : Ob) : Bool := decide (DecOk o.k o.s o.n o.v)
open Classical in
theorem decB_iff {o : Ob} : decB o = true ↔ DecOk o.k o.s o.n o.v := by unfold decB; rw [decide_eq_true_iff]
noncomputable def recsOf (rel : ByteArray) (l : List Ob) : List Rc := (l.filter fun o => ownIs rel o).map fun o => rcOf o.v
noncomputable def allOk (rel : ByteArray) (l : List Ob) : Bool := l.all fun o => !ownIs rel o || decB o
theorem recsOf_take {rel : ByteArray} {l : List Ob} {k : Nat} {o : Ob} (h : l[k]? = some o) : recsOf rel (l.take (k + 1)) = recsOf rel (l.take k) ++ (if ownIs rel o = true then [rcOf o.v] else []) := by
 unfold recsOf
 rw [List.take_add_one, h]
 simp only [Option.toList]
 rw [List.filter_append, List.map_append]
 congr 1
 by_cases ho : ownIs rel o = true
 ·rw [if_pos ho, List.filter_cons_of_pos ho]
  rfl
 ·rw [if_neg ho, List.filter_cons_of_neg ho]
  rfl
theorem allOk_take {rel : ByteArray} {l : List Ob} {k : Nat} {o : Ob} (h : l[k]? = some o) : allOk rel (l.take (k + 1)) = (allOk rel (l.take k) && (!ownIs rel o || decB o)) := by
 unfold allOk
 rw [List.take_add_one, h]
 simp [Option.toList]
theorem allOk_not {rel : ByteArray} {l : List Ob} {k : Nat} {o : Ob} (h : l[k]? = some o) (ho : ownIs rel o = true) (hd : decB o = false) : allOk rel l = false := by
 unfold allOk
 rw [List.all_eq_false]
 exact ⟨o, List.mem_of_getElem? h, by simp [ho, hd]⟩
theorem recsOf_len (rel : ByteArray) (l : List Ob) : (recsOf rel l).length ≤ l.length := by
 unfold recsOf
 rw [List.length_map]
 exact List.length_filter_le _ _
theorem ownIs_some {rel : ByteArray} {o : Ob} (h : ownIs rel o = true) : ∃ n, ownP o.k o.s o.n = some (rel, n) := by
 unfold ownIs at h
 cases hp : ownP o.k o.s o.n with
 | none => rw [hp] at h; cases h
 | some p =>
  rw [hp] at h
  have := of_decide_eq_true h
  exact ⟨p.2, by rw [← this]⟩
theorem recs_nd {rel : ByteArray} : ∀ {l : List Ob}, (l.map fun o => (o.k, o.s, o.n)).Nodup → allOk rel l = true → ((recsOf rel l).map fun r => r.rev).Nodup
 | [], _, _ => by simp [recsOf]
 | o :: l, hnd, hok => by
  rw [List.map_cons, List.nodup_cons] at hnd
  unfold allOk at hok
  rw [List.all_cons, Bool.and_eq_true] at hok
  have ih := recs_nd hnd.2 hok.2
  by_cases ho : ownIs rel o = true
  ·have e : recsOf rel (o :: l) = rcOf o.v :: recsOf rel l := by
    unfold recsOf
    rw [List.filter_cons_of_pos ho]
    rfl
   rw [e, List.map_cons, List.nodup_cons]
   refine ⟨fun hm => ?_, ih⟩
   obtain ⟨r, hr, hrev⟩ := List.mem_map.1 hm
   unfold recsOf at hr
   obtain ⟨o', ho', rfl⟩ := List.mem_map.1 hr
   obtain ⟨hm', hown'⟩ := List.mem_filter.1 ho'
   have hd : decB o = true := by
    have := hok.1
    rw [ho] at this
    simpa using this
   have hd' : decB o' = true := by
    have := List.all_eq_true.1 hok.2 o' hm'
    rw [hown'] at this
    simpa using this
   obtain ⟨n, hn⟩ := ownIs_some ho
   obtain ⟨n', hn'⟩ := ownIs_some hown'
   have d := decB_iff.1 hd
   have d' := decB_iff.1 hd'
   have o1 := decOk_own d
   have o2 := decOk_own d'
   rw [hn] at o1
   rw [hn'] at o2
   injection o1 with o1
   injection o2 with o2
   injection o1 with r1 _
   injection o2 with r2 _
   refine hnd.1 (List.mem_map.2 ⟨o', hm', ?_⟩)
   obtain ⟨_, _, a1, a2, a3⟩ := d
   obtain ⟨_, _, b1, b2, b3⟩ := d'
   rw [a1, a2, a3, b1, b2, b3, ← r1, ← r2, hrev]
  ·have e : recsOf rel (o :: l) = recsOf rel l := by
    unfold recsOf
    rw [List.filter_cons_of_neg ho]
   rw [e]
   exact ih
end Go.Proofs.YtgidajjjpeboeaaGreatDoor
namespace Go.Proofs.YtgidajjjpeboeaaGreatDoor
open Go.RowKit Go.Sort Go.Lib Go.Shelf
theorem grow0 (w : World) : w = grow (w.drewN 0) #[] := by
 unfold grow World.drewN
 simp
theorem grow2_0 (w : World) (A B : Obj) : ((w.alloc A).alloc B) = grow (w.drewN 0) (#[A, B] ++ #[]) := by
 have h := grow2 w A B 0 #[]
 rw [← grow0] at h
 exact h
set_option maxRecDepth 100000 in
theorem all1_any (r r' : Value) (n n' : Int) (b c d e f b' c' d' e' f' : Value) (w : World) :
  Calls Tryz.prog 53 #[.agg #[r, .int .i64 n, b, c, d, e, f], .agg #[r', .int .i64 n', b', c', d', e', f']] w fun e w' => e = .returned (.int .i64 (cmpN n n')) ∧ ∃ q os, w' = grow (w.drewN q) os := by
 obtain ⟨R, hR⟩ : ∃ R, cmpN n n' = R := ⟨_, rfl⟩
 have hc := Lib.hid fun w => cmpI_any n n' w
 rw [hR] at hc ⊢
 clear hR
 go_enter Tryz.func53, Tryz.ntmps53
 go_wp2_with (go_at_call 54; refine (hc.out _).mono ?_; rintro e1 w1 ⟨rfl, rfl⟩)
 go_ret
 exact ⟨rfl, 0, _, grow2_0 w _ _⟩
theorem rcA_len (r : Rc) : (rcA r).length = 7 := rfl
theorem rcA_clean (r : Rc) : ∀ c ∈ rcA r, c.clean = true := by
 intro c hc
 simp [rcA] at hc
 rcases hc with rfl | rfl | rfl | rfl | rfl | rfl | rfl <;> rfl
theorem cells7 {σ : Sg} {cs : List Value} {r : Rc} (h : RelL σ cs (rcA r)) : ∃ x b c d e f, cs.toArray = #[x, .int .i64 r.rev, b, c, d, e, f] := by
 have hl := h.1
 rcases cs with _ | ⟨x1, _ | ⟨x2, _ | ⟨x3, _ | ⟨x4, _ | ⟨x5, _ | ⟨x6, _ | ⟨x7, _ | ⟨_, _⟩⟩⟩⟩⟩⟩⟩⟩ <;> simp [rcA] at hl
 have h2 : Rel1 σ x2 (.int .i64 r.rev) := h.2 1 _ _ rfl rfl
 cases h2
 exact ⟨x1, x3, x4, x5, x6, x7, rfl⟩
def rowsR (l : List Rc) : List (List AV) := l.map fun r => rcA r
theorem rowsR_len (l : List Rc) : (rowsR l).length = l.length := List.length_map _
theorem rowsR_at {l : List Rc} {k : Nat} {r : Rc} (h : l[k]? = some r) : (rowsR l)[k]? = some (rcA r) := by simp [rowsR, h]
theorem rowsR_snoc (l : List Rc) (r : Rc) : rowsR (l ++ [r]) = rowsR l ++ [rcA r] := by simp [rowsR]
theorem rowsR_ok (l : List Rc) : RowsOk 7 (rowsR l) := ⟨by omega, fun c hc => by
 obtain ⟨o, _, rfl⟩ := List.mem_map.1 hc
 exact ⟨rfl, rfl⟩⟩
theorem sortRc_ms (l : List Rc) (hnd : (l.map fun r => r.rev).Nodup) (hlen : l.length ≤ 1000000) (cap m : Nat) (hcap : l.length ≤ cap) (hz : ((rowsR l).flatten ++ List.replicate m AV.top).length = cap * 7) :
  MS Tryz.prog 52 [(2000000, (rowsR l).flatten ++ List.replicate m AV.top)] [.sli 2000000 7 l.length cap, .fn 53 []] [(2000000, (rowsR (sortR (fun r => r.rev) l)).flatten ++ List.replicate m AV.top)] (.tup []) :=
 sort_ms Tryz.sortR (by kernel_rfl) Tryz.isAgg94 Tryz.sizeOf94 (fun r => rcA r) rcA_len rcA_clean cmpN_ok (fun r => r.rev) hnd (by omega) (sortR_perm _ l) ((sortR_sorted (fun r : Rc => r.rev) hnd).imp fun {a b} h => by unfold cmpN; rw [if_pos h]; omega) _ (enters_of Tryz.func53 (by kernel_rfl) rfl) (fun σ cs ds x y _ _ h1 h2 W hW => by
  obtain ⟨a, b, c, d, e, f, e1⟩ := cells7 h1
  obtain ⟨a', b', c', d', e', f', e2⟩ := cells7 h2
  rw [e1, e2]
  exact all1_any _ _ _ _ _ _ _ _ _ _ _ _ _ _ W) cap m hcap hz
theorem sortRNil_a (f : AV) (hf : f.arg = some f) : AC Tryz.prog 52 [.lst .any 7 [], f] (.tup []) := by
 refine ⟨by kernel_rfl, fun σ w vs hh hr hg => ?_⟩
 obtain ⟨v1, v2, rfl⟩ : ∃ a b, vs = [a, b] := by
  have := hr.1
  rcases vs with _ | ⟨a, _ | ⟨b, _ | ⟨_, _⟩⟩⟩ <;> simp at this
  exact ⟨a, b, rfl⟩
 have h1 : Rel1 σ v1 (.lst .any 7 []) := hr.2 0 v1 _ rfl rfl
 cases h1 with
 | lst t esz l A n cap b o f hn hlen hA hsz hσ hr ht =>
  subst hn
  refine (AnyF.slices_SortFunc_none Tryz.sortR A cap v2 w).mono ?_
  rintro e w' ⟨rfl, rfl⟩
  exact ⟨σ, .tuple #[], rfl, .refl _ _, hh, .refl _ _, [], rfl, rfl, fun j u x hu => by simp at hu⟩
theorem map_rowsR {g : AV → AV} (hg : ∀ a : AV, a.clean = true → g a = a) (l : List Rc) (m : Nat) : ((rowsR l).flatten ++ List.replicate m AV.top).map g = (rowsR l).flatten ++ List.replicate m AV.top := by
 rw [show ((rowsR l).flatten ++ List.replicate m AV.top).map g = ((rowsR l).flatten ++ List.replicate m AV.top).map id from List.map_congr_left fun c hc => ?_, List.map_id]
 rcases List.mem_append.1 hc with hc | hc
 ·obtain ⟨r, hr, hcr⟩ := List.mem_flatten.1 hc
  obtain ⟨o, _, rfl⟩ := List.mem_map.1 hr
  exact hg c (rcA_clean o c hcr)
 ·rw [(List.mem_replicate.1 hc).2]; exact hg _ rfl
theorem all_rowsR {g : AV → Bool} (hg : ∀ a : AV, a.clean = true → g a = true) (l : List Rc) (m : Nat) : ((rowsR l).flatten ++ List.replicate m AV.top).all g = true := by
 rw [List.all_eq_true]
 intro c hc
 rcases List.mem_append.1 hc with hc | hc
 ·obtain ⟨r, hr, hcr⟩ := List.mem_flatten.1 hc
  obtain ⟨o, _, rfl⟩ := List.mem_map.1 hr
  exact hg c (rcA_clean o c hcr)
 ·rw [(List.mem_replicate.1 hc).2]; exact hg _ rfl
theorem sortRc_mr (l : List Rc) (hnd : (l.map fun r => r.rev).Nodup) (hlen : l.length ≤ 1000000) (cap m : Nat) (hcap : l.length ≤ cap) (hz : ((rowsR l).flatten ++ List.replicate m AV.top).length = cap * 7) :
  MS Tryz.prog 52 [(1000001, (rowsR l).flatten ++ List.replicate m AV.top)] [.sli 1000001 7 l.length cap, .fn 53 []] [(1000001, (rowsR (sortR (fun r => r.rev) l)).flatten ++ List.replicate m AV.top)] (.tup []) := by
 have h := (sortRc_ms l hnd hlen cap m hcap hz).ren rhoO rhoO_inj rhoO_mp
 unfold renS at h
 simp only [List.map_cons, List.map_nil, map_rowsR (fun a h => clean_ren rhoO h)] at h
 exact h
end Go.Proofs.YtgidajjjpeboeaaGreatDoor
