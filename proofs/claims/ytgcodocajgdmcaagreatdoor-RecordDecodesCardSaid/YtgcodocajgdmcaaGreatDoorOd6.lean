/-
  The law's function RecordDecodes, walked.
-/
import Derived.Test.YtgcodocajgdmcaaGreatDoorOd5
import Derived.Test.YtgcodocajgdmcaaGreatDoorRcE
namespace Go.Proofs.YtgcodocajgdmcaaGreatDoor
set_option linter.unusedSimpArgs false
set_option linter.unusedVariables false
open Go.RowKit

def ownT (o : Option (ByteArray × Nat)) : List AV := match o with
  | some p => [.str p.1, .int .i64 p.2, .bool true]
  | none => [.str ⟨#[]⟩, .int .i64 0, .bool false]
set_option maxRecDepth 8000 in
set_option maxHeartbeats 2000000 in
theorem recordDecodes_a (k s nm : ByteArray) (v : V) (hsb : v.sb) (zk : k.size ≤ 140737488355328) (zs : s.size ≤ 140737488355328) (zn : nm.size ≤ 140737488355328) :
    AC Tryz.prog 3 [.agg ([.str k, .str s, .str nm] ++ [.int .i64 (v).kind, .bool (v).b, .int .i64 (v).n, .str (v).s, .lst .any 6 (rowsV (v).l), .lst .any 7 (rowsM (v).m)])] (.bool true) := by
  have haw := awake_a
  have hL := light_a v hsb
  have hR := right_a [v] (by simp) (by simpa using hsb)
  rw [show rowsV [v] = [[.int .i64 (v).kind, .bool (v).b, .int .i64 (v).n, .str (v).s, .lst .any 6 (rowsV (v).l), .lst .any 7 (rowsM (v).m)]] from by rw [rowsV, rowsV, cellsV_eq]] at hR
  have hw1 : IntKind.i64.wrap ((nm.size : Int) + k.size) = (nm.size : Int) + k.size := wrap_in (by omega) (by omega)
  have hw2 : IntKind.i64.wrap ((nm.size : Int) + k.size + s.size) = (nm.size : Int) + k.size + s.size := wrap_in (by omega) (by omega)
  refine AC.enter Tryz.func3 a_law17_RecordDecodes_ok a_law17_RecordDecodes_cb (by rfl) fun E hE => ?_
  show AK _ _ _ [.c b_law17_RecordDecodes] _ _
  rw [b_law17_RecordDecodes]
  (repeat (first | apply AK.seq | apply AK.block | apply AK.blk | apply AK.skip | (refine AK.reg follows_any (rs := []) (by rfl) ?_ ?_; first | exact trivial | exact ⟨trivial, trivial⟩ | exact ⟨trivial, trivial, trivial⟩ | exact ⟨trivial, trivial, trivial, trivial⟩ | fail) | fail))
  refine AK.reg follows_any (rs := [.v (.bool v.light_), .v (.bool (rightB [v]))]) (by rfl) ?_ ?_
  · ((repeat' apply And.intro) <;> first | trivial | omega | (simp only [List.length_nil, List.length_cons]; omega) | (intro hgd; first | (rw [hgd]; rfl) | (refine ⟨?_, by repeat (first | exact trivial | refine ⟨hgd, ?_⟩)⟩; (repeat' apply And.intro) <;> first | trivial | omega | (intro h2; rw [hgd, h2]; rfl) | skip)) | skip)
  rw [hw1, hw2]
  refine AK.cond (by rfl) (fun hb => ?_) (fun hb => ?_)
  · (repeat (first | apply AK.seq | apply AK.block | apply AK.blk | apply AK.skip | (refine AK.reg follows_any (rs := []) (by rfl) ?_ ?_; first | exact trivial | exact ⟨trivial, trivial⟩ | exact ⟨trivial, trivial, trivial⟩ | exact ⟨trivial, trivial, trivial, trivial⟩ | fail) | fail))
    refine AK.reg follows_any (rs := [.v (.bool true)]) (by rfl) ?_ ?_
    · ((repeat' apply And.intro) <;> first | trivial | omega | (simp only [List.length_nil, List.length_cons]; omega) | (intro hgd; first | (rw [hgd]; rfl) | (refine ⟨?_, by repeat (first | exact trivial | refine ⟨hgd, ?_⟩)⟩; (repeat' apply And.intro) <;> first | trivial | omega | (intro h2; rw [hgd, h2]; rfl) | skip)) | skip)
    (repeat (first | apply AK.seq | apply AK.block | apply AK.blk | apply AK.skip | (refine AK.reg follows_any (rs := []) (by rfl) ?_ ?_; first | exact trivial | exact ⟨trivial, trivial⟩ | exact ⟨trivial, trivial, trivial⟩ | exact ⟨trivial, trivial, trivial, trivial⟩ | fail) | fail))
    refine AK.ret ⟨_, rfl, ?_⟩
    rfl
  simp only [Bool.or_eq_false_iff, Bool.not_eq_false', decide_eq_false_iff_not] at hb
  obtain ⟨⟨_, hlen⟩, hR2⟩ := hb
  obtain ⟨_, hg, hsz, _⟩ := rightB_fine hR2 v (by simp)
  clear hL hR hR2 hw1 hw2
  have hnm : nm.size ≤ 1000000 := by omega
  obtain ⟨d, hd⟩ : ∃ d : Bool, d = true ↔ DecOk k s nm v := by
    by_cases h : DecOk k s nm v
    · exact ⟨true, by simp [h]⟩
    · exact ⟨false, by simp [h]⟩
  have hD := decodeM_a k s nm v hg (by omega) hsb hnm d hd
  have hE := refDecodeM_a k s nm v (by omega) hsb d hd
  have hO := owner_any k s nm hnm
  have hP := refOwner_a k s nm hnm
  have hq := eqR_any (rcOf v) (rcOf v)
  have hq0 := eqR_any ⟨⟨#[]⟩, 0, 0, 0, ⟨#[]⟩, ⟨#[]⟩, ⟨#[]⟩⟩ ⟨⟨#[]⟩, 0, 0, 0, ⟨#[]⟩, ⟨#[]⟩, ⟨#[]⟩⟩
  generalize rcOf v = r at *
  obtain ⟨nw, no, hown⟩ : ∃ (a : ByteArray) (n : Int) , ∃ b : Bool, ownAV (ownP k s nm) = .tup [.str a, .int .i64 n, .bool b] := by
    cases ownP k s nm with
    | none => exact ⟨_, _, _, rfl⟩
    | some p => exact ⟨_, _, _, rfl⟩
  obtain ⟨bo, hown⟩ := hown
  rw [hown] at hO hP
  clear hown hd
  cases d with
  | true =>
    rw [if_pos rfl] at hD hE
    (repeat (first | apply AK.seq | apply AK.block | apply AK.blk | apply AK.skip | (refine AK.reg follows_any (rs := []) (by rfl) ?_ ?_; first | exact trivial | exact ⟨trivial, trivial⟩ | exact ⟨trivial, trivial, trivial⟩ | exact ⟨trivial, trivial, trivial, trivial⟩ | fail) | fail))
    refine AK.reg follows_any (rs := [.v (.tup [.agg (rcA r), .int .i64 0])]) (by rfl) ?_ ?_
    · ((repeat' apply And.intro) <;> first | trivial | omega | (simp only [List.length_nil, List.length_cons]; omega) | (intro hgd; first | (rw [hgd]; rfl) | (refine ⟨?_, by repeat (first | exact trivial | refine ⟨hgd, ?_⟩)⟩; (repeat' apply And.intro) <;> first | trivial | omega | (intro h2; rw [hgd, h2]; rfl) | skip)) | skip)
    (repeat (first | apply AK.seq | apply AK.block | apply AK.blk | apply AK.skip | (refine AK.reg follows_any (rs := []) (by rfl) ?_ ?_; first | exact trivial | exact ⟨trivial, trivial⟩ | exact ⟨trivial, trivial, trivial⟩ | exact ⟨trivial, trivial, trivial, trivial⟩ | fail) | fail))
    refine AK.reg follows_any (rs := [.v (.tup [.agg (rcA r), .bool true])]) (by rfl) ?_ ?_
    · ((repeat' apply And.intro) <;> first | trivial | omega | (simp only [List.length_nil, List.length_cons]; omega) | (intro hgd; first | (rw [hgd]; rfl) | (refine ⟨?_, by repeat (first | exact trivial | refine ⟨hgd, ?_⟩)⟩; (repeat' apply And.intro) <;> first | trivial | omega | (intro h2; rw [hgd, h2]; rfl) | skip)) | skip)
    (repeat (first | apply AK.seq | apply AK.block | apply AK.blk | apply AK.skip | (refine AK.reg follows_any (rs := []) (by rfl) ?_ ?_; first | exact trivial | exact ⟨trivial, trivial⟩ | exact ⟨trivial, trivial, trivial⟩ | exact ⟨trivial, trivial, trivial, trivial⟩ | fail) | fail))
    refine AK.reg follows_any (rs := [.v (.tup [.str nw, .int .i64 no, .bool bo])]) (by rfl) ?_ ?_
    · ((repeat' apply And.intro) <;> first | trivial | omega | (simp only [List.length_nil, List.length_cons]; omega) | (intro hgd; first | (rw [hgd]; rfl) | (refine ⟨?_, by repeat (first | exact trivial | refine ⟨hgd, ?_⟩)⟩; (repeat' apply And.intro) <;> first | trivial | omega | (intro h2; rw [hgd, h2]; rfl) | skip)) | skip)
    (repeat (first | apply AK.seq | apply AK.block | apply AK.blk | apply AK.skip | (refine AK.reg follows_any (rs := []) (by rfl) ?_ ?_; first | exact trivial | exact ⟨trivial, trivial⟩ | exact ⟨trivial, trivial, trivial⟩ | exact ⟨trivial, trivial, trivial, trivial⟩ | fail) | fail))
    refine AK.reg follows_any (rs := [.v (.tup [.str nw, .int .i64 no, .bool bo])]) (by rfl) ?_ ?_
    · ((repeat' apply And.intro) <;> first | trivial | omega | (simp only [List.length_nil, List.length_cons]; omega) | (intro hgd; first | (rw [hgd]; rfl) | (refine ⟨?_, by repeat (first | exact trivial | refine ⟨hgd, ?_⟩)⟩; (repeat' apply And.intro) <;> first | trivial | omega | (intro h2; rw [hgd, h2]; rfl) | skip)) | skip)
    (repeat (first | apply AK.seq | apply AK.block | apply AK.blk | apply AK.skip | (refine AK.reg follows_any (rs := []) (by rfl) ?_ ?_; first | exact trivial | exact ⟨trivial, trivial⟩ | exact ⟨trivial, trivial, trivial⟩ | exact ⟨trivial, trivial, trivial, trivial⟩ | fail) | fail))
    refine AK.reg follows_any (rs := [.v (.bool true)]) (by rfl) ?_ ?_
    · ((repeat' apply And.intro) <;> first | trivial | omega | (simp only [List.length_nil, List.length_cons]; omega) | (intro hgd; first | (rw [hgd]; rfl) | (refine ⟨?_, by repeat (first | exact trivial | refine ⟨hgd, ?_⟩)⟩; (repeat' apply And.intro) <;> first | trivial | omega | (intro h2; rw [hgd, h2]; rfl) | skip)) | skip)
      all_goals first | exact hq | skip
    (repeat (first | apply AK.seq | apply AK.block | apply AK.blk | apply AK.skip | (refine AK.reg follows_any (rs := []) (by rfl) ?_ ?_; first | exact trivial | exact ⟨trivial, trivial⟩ | exact ⟨trivial, trivial, trivial⟩ | exact ⟨trivial, trivial, trivial, trivial⟩ | fail) | fail))
    refine AK.ret ⟨_, rfl, ?_⟩
    refine congrArg AV.bool ?_
    simp [eqCells, rcA]
  | false =>
    rw [if_neg (by simp)] at hD hE
    (repeat (first | apply AK.seq | apply AK.block | apply AK.blk | apply AK.skip | (refine AK.reg follows_any (rs := []) (by rfl) ?_ ?_; first | exact trivial | exact ⟨trivial, trivial⟩ | exact ⟨trivial, trivial, trivial⟩ | exact ⟨trivial, trivial, trivial, trivial⟩ | fail) | fail))
    refine AK.reg follows_any (rs := [.v (.tup [.agg rc0, .int .i64 35])]) (by rfl) ?_ ?_
    · ((repeat' apply And.intro) <;> first | trivial | omega | (simp only [List.length_nil, List.length_cons]; omega) | (intro hgd; first | (rw [hgd]; rfl) | (refine ⟨?_, by repeat (first | exact trivial | refine ⟨hgd, ?_⟩)⟩; (repeat' apply And.intro) <;> first | trivial | omega | (intro h2; rw [hgd, h2]; rfl) | skip)) | skip)
    (repeat (first | apply AK.seq | apply AK.block | apply AK.blk | apply AK.skip | (refine AK.reg follows_any (rs := []) (by rfl) ?_ ?_; first | exact trivial | exact ⟨trivial, trivial⟩ | exact ⟨trivial, trivial, trivial⟩ | exact ⟨trivial, trivial, trivial, trivial⟩ | fail) | fail))
    refine AK.reg follows_any (rs := [.v (.tup [.agg rc0, .bool false])]) (by rfl) ?_ ?_
    · ((repeat' apply And.intro) <;> first | trivial | omega | (simp only [List.length_nil, List.length_cons]; omega) | (intro hgd; first | (rw [hgd]; rfl) | (refine ⟨?_, by repeat (first | exact trivial | refine ⟨hgd, ?_⟩)⟩; (repeat' apply And.intro) <;> first | trivial | omega | (intro h2; rw [hgd, h2]; rfl) | skip)) | skip)
    (repeat (first | apply AK.seq | apply AK.block | apply AK.blk | apply AK.skip | (refine AK.reg follows_any (rs := []) (by rfl) ?_ ?_; first | exact trivial | exact ⟨trivial, trivial⟩ | exact ⟨trivial, trivial, trivial⟩ | exact ⟨trivial, trivial, trivial, trivial⟩ | fail) | fail))
    refine AK.reg follows_any (rs := [.v (.tup [.str nw, .int .i64 no, .bool bo])]) (by rfl) ?_ ?_
    · ((repeat' apply And.intro) <;> first | trivial | omega | (simp only [List.length_nil, List.length_cons]; omega) | (intro hgd; first | (rw [hgd]; rfl) | (refine ⟨?_, by repeat (first | exact trivial | refine ⟨hgd, ?_⟩)⟩; (repeat' apply And.intro) <;> first | trivial | omega | (intro h2; rw [hgd, h2]; rfl) | skip)) | skip)
    (repeat (first | apply AK.seq | apply AK.block | apply AK.blk | apply AK.skip | (refine AK.reg follows_any (rs := []) (by rfl) ?_ ?_; first | exact trivial | exact ⟨trivial, trivial⟩ | exact ⟨trivial, trivial, trivial⟩ | exact ⟨trivial, trivial, trivial, trivial⟩ | fail) | fail))
    refine AK.reg follows_any (rs := [.v (.tup [.str nw, .int .i64 no, .bool bo])]) (by rfl) ?_ ?_
    · ((repeat' apply And.intro) <;> first | trivial | omega | (simp only [List.length_nil, List.length_cons]; omega) | (intro hgd; first | (rw [hgd]; rfl) | (refine ⟨?_, by repeat (first | exact trivial | refine ⟨hgd, ?_⟩)⟩; (repeat' apply And.intro) <;> first | trivial | omega | (intro h2; rw [hgd, h2]; rfl) | skip)) | skip)
    (repeat (first | apply AK.seq | apply AK.block | apply AK.blk | apply AK.skip | (refine AK.reg follows_any (rs := []) (by rfl) ?_ ?_; first | exact trivial | exact ⟨trivial, trivial⟩ | exact ⟨trivial, trivial, trivial⟩ | exact ⟨trivial, trivial, trivial, trivial⟩ | fail) | fail))
    refine AK.reg follows_any (rs := [.v (.bool true)]) (by rfl) ?_ ?_
    · ((repeat' apply And.intro) <;> first | trivial | omega | (simp only [List.length_nil, List.length_cons]; omega) | (intro hgd; first | (rw [hgd]; rfl) | (refine ⟨?_, by repeat (first | exact trivial | refine ⟨hgd, ?_⟩)⟩; (repeat' apply And.intro) <;> first | trivial | omega | (intro h2; rw [hgd, h2]; rfl) | skip)) | skip)
      all_goals first | exact hq0 | skip
    (repeat (first | apply AK.seq | apply AK.block | apply AK.blk | apply AK.skip | (refine AK.reg follows_any (rs := []) (by rfl) ?_ ?_; first | exact trivial | exact ⟨trivial, trivial⟩ | exact ⟨trivial, trivial, trivial⟩ | exact ⟨trivial, trivial, trivial, trivial⟩ | fail) | fail))
    refine AK.ret ⟨_, rfl, ?_⟩
    refine congrArg AV.bool ?_
    simp [eqCells, rc0]
end Go.Proofs.YtgcodocajgdmcaaGreatDoor
