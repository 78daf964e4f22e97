/-
  record.Encode, record.Decode of a record's own body, walked.
-/
import Derived.Test.YtgcodocajgdmcaaGreatDoorRc1
import Derived.Test.YtgcodocajgdmcaaGreatDoorRecA
import Derived.Test.YtgcodocajgdmcaaGreatDoorPr6
import Derived.Test.YtgcodocajgdmcaaGreatDoorMap
namespace Go.Proofs.YtgcodocajgdmcaaGreatDoor
set_option linter.unusedSimpArgs false
set_option linter.unusedVariables false
open Go.RowKit

theorem treeStr_a (s : ByteArray) : AC Tryz.prog 68 [.str s] (.agg [.int .i64 ((V.str s)).kind, .bool ((V.str s)).b, .int .i64 ((V.str s)).n, .str ((V.str s)).s, .lst .any 6 (rowsV ((V.str s)).l), .lst .any 7 (rowsM ((V.str s)).m)]) := by
  refine AC.enter Tryz.func68 a_tree_Str_ok a_tree_Str_cb (by rfl) fun E hE => ?_
  show AK _ _ _ [.c b_tree_Str] _ _
  rw [b_tree_Str]
  (repeat (first | apply AK.seq | apply AK.block | apply AK.blk | apply AK.skip | (refine AK.reg follows_any (rs := []) (by rfl) ?_ ?_; first | exact trivial | exact ⟨trivial, trivial⟩ | exact ⟨trivial, trivial, trivial⟩ | exact ⟨trivial, trivial, trivial, trivial⟩ | fail) | fail))
  refine AK.ret ⟨_, rfl, ?_⟩
  rfl
theorem treeInt_a (n : Int) : AC Tryz.prog 69 [.int .i64 n] (.agg [.int .i64 ((V.int n)).kind, .bool ((V.int n)).b, .int .i64 ((V.int n)).n, .str ((V.int n)).s, .lst .any 6 (rowsV ((V.int n)).l), .lst .any 7 (rowsM ((V.int n)).m)]) := by
  refine AC.enter Tryz.func69 a_tree_Int_ok a_tree_Int_cb (by rfl) fun E hE => ?_
  show AK _ _ _ [.c b_tree_Int] _ _
  rw [b_tree_Int]
  (repeat (first | apply AK.seq | apply AK.block | apply AK.blk | apply AK.skip | (refine AK.reg follows_any (rs := []) (by rfl) ?_ ?_; first | exact trivial | exact ⟨trivial, trivial⟩ | exact ⟨trivial, trivial, trivial⟩ | exact ⟨trivial, trivial, trivial, trivial⟩ | fail) | fail))
  refine AK.ret ⟨_, rfl, ?_⟩
  rfl
theorem pair_a (k : ByteArray) (v : V) : AC Tryz.prog 67 [.str k, .agg [.int .i64 (v).kind, .bool (v).b, .int .i64 (v).n, .str (v).s, .lst .any 6 (rowsV (v).l), .lst .any 7 (rowsM (v).m)]] (.agg (.str k :: [.int .i64 (v).kind, .bool (v).b, .int .i64 (v).n, .str (v).s, .lst .any 6 (rowsV (v).l), .lst .any 7 (rowsM (v).m)])) := by
  refine AC.enter Tryz.func67 a_record_Encode_1_ok a_record_Encode_1_cb (by rfl) fun E hE => ?_
  show AK _ _ _ [.c b_record_Encode_1] _ _
  rw [b_record_Encode_1]
  (repeat (first | apply AK.seq | apply AK.block | apply AK.blk | apply AK.skip | (refine AK.reg follows_any (rs := []) (by rfl) ?_ ?_; first | exact trivial | exact ⟨trivial, trivial⟩ | exact ⟨trivial, trivial, trivial⟩ | exact ⟨trivial, trivial, trivial, trivial⟩ | fail) | fail))
  refine AK.ret ⟨_, rfl, ?_⟩
  rfl
theorem rises_recM (r : Rc) : Rises (recM r) := by
  have key : ([kChart, kCommand, kManifest, kRelease, kRevision, kStatus, kValues] : List ByteArray).Pairwise (fun a b => Op.bytesLess a.toList b.toList = true) := by decide +kernel
  have e : (recM r).map (·.1) = [kChart, kCommand, kManifest, kRelease, kRevision, kStatus, kValues] := rfl
  rw [← e, List.pairwise_map] at key
  exact key
def Rc.w (r : Rc) : Prop := (-9223372036854775808 ≤ r.rev ∧ r.rev ≤ 9223372036854775807) ∧ (-9223372036854775808 ≤ r.st ∧ r.st ≤ 9223372036854775807) ∧ (-9223372036854775808 ≤ r.cmd ∧ r.cmd ≤ 9223372036854775807)
theorem encode_a (r : Rc) : AC Tryz.prog 29 [.agg (rcA r)] (.agg [.int .i64 ((recV r)).kind, .bool ((recV r)).b, .int .i64 ((recV r)).n, .str ((recV r)).s, .lst .any 6 (rowsV ((recV r)).l), .lst .any 7 (rowsM ((recV r)).m)]) := by
  have hM := treeMap_a (recM r) (by simp [recM, sizeM, V.size, V.str, V.int, sizeL])
  rw [mapOf_rises (rises_recM r)] at hM
  refine AC.enter Tryz.func29 a_record_Encode_ok a_record_Encode_cb (by rfl) fun E hE => ?_
  show AK _ _ _ [.c b_record_Encode] _ _
  rw [b_record_Encode]
  (repeat (first | apply AK.seq | apply AK.block | apply AK.blk | apply AK.skip | (refine AK.reg follows_any (rs := []) (by rfl) ?_ ?_; first | exact trivial | exact ⟨trivial, trivial⟩ | exact ⟨trivial, trivial, trivial⟩ | exact ⟨trivial, trivial, trivial, trivial⟩ | fail) | fail))
  refine AK.reg follows_any (rs := [.v (.agg [.int .i64 ((V.str r.ch)).kind, .bool ((V.str r.ch)).b, .int .i64 ((V.str r.ch)).n, .str ((V.str r.ch)).s, .lst .any 6 (rowsV ((V.str r.ch)).l), .lst .any 7 (rowsM ((V.str r.ch)).m)]), .v (.agg (.str kChart :: [.int .i64 ((V.str r.ch)).kind, .bool ((V.str r.ch)).b, .int .i64 ((V.str r.ch)).n, .str ((V.str r.ch)).s, .lst .any 6 (rowsV ((V.str r.ch)).l), .lst .any 7 (rowsM ((V.str r.ch)).m)])), .v (.agg [.int .i64 ((V.int r.cmd)).kind, .bool ((V.int r.cmd)).b, .int .i64 ((V.int r.cmd)).n, .str ((V.int r.cmd)).s, .lst .any 6 (rowsV ((V.int r.cmd)).l), .lst .any 7 (rowsM ((V.int r.cmd)).m)]), .v (.agg (.str kCommand :: [.int .i64 ((V.int r.cmd)).kind, .bool ((V.int r.cmd)).b, .int .i64 ((V.int r.cmd)).n, .str ((V.int r.cmd)).s, .lst .any 6 (rowsV ((V.int r.cmd)).l), .lst .any 7 (rowsM ((V.int r.cmd)).m)])), .v (.agg [.int .i64 ((V.str r.ma)).kind, .bool ((V.str r.ma)).b, .int .i64 ((V.str r.ma)).n, .str ((V.str r.ma)).s, .lst .any 6 (rowsV ((V.str r.ma)).l), .lst .any 7 (rowsM ((V.str r.ma)).m)]), .v (.agg (.str kManifest :: [.int .i64 ((V.str r.ma)).kind, .bool ((V.str r.ma)).b, .int .i64 ((V.str r.ma)).n, .str ((V.str r.ma)).s, .lst .any 6 (rowsV ((V.str r.ma)).l), .lst .any 7 (rowsM ((V.str r.ma)).m)])), .v (.agg [.int .i64 ((V.str r.rel)).kind, .bool ((V.str r.rel)).b, .int .i64 ((V.str r.rel)).n, .str ((V.str r.rel)).s, .lst .any 6 (rowsV ((V.str r.rel)).l), .lst .any 7 (rowsM ((V.str r.rel)).m)]), .v (.agg (.str kRelease :: [.int .i64 ((V.str r.rel)).kind, .bool ((V.str r.rel)).b, .int .i64 ((V.str r.rel)).n, .str ((V.str r.rel)).s, .lst .any 6 (rowsV ((V.str r.rel)).l), .lst .any 7 (rowsM ((V.str r.rel)).m)])), .v (.agg [.int .i64 ((V.int r.rev)).kind, .bool ((V.int r.rev)).b, .int .i64 ((V.int r.rev)).n, .str ((V.int r.rev)).s, .lst .any 6 (rowsV ((V.int r.rev)).l), .lst .any 7 (rowsM ((V.int r.rev)).m)]), .v (.agg (.str kRevision :: [.int .i64 ((V.int r.rev)).kind, .bool ((V.int r.rev)).b, .int .i64 ((V.int r.rev)).n, .str ((V.int r.rev)).s, .lst .any 6 (rowsV ((V.int r.rev)).l), .lst .any 7 (rowsM ((V.int r.rev)).m)])), .v (.agg [.int .i64 ((V.int r.st)).kind, .bool ((V.int r.st)).b, .int .i64 ((V.int r.st)).n, .str ((V.int r.st)).s, .lst .any 6 (rowsV ((V.int r.st)).l), .lst .any 7 (rowsM ((V.int r.st)).m)]), .v (.agg (.str kStatus :: [.int .i64 ((V.int r.st)).kind, .bool ((V.int r.st)).b, .int .i64 ((V.int r.st)).n, .str ((V.int r.st)).s, .lst .any 6 (rowsV ((V.int r.st)).l), .lst .any 7 (rowsM ((V.int r.st)).m)])), .v (.agg [.int .i64 ((V.str r.va)).kind, .bool ((V.str r.va)).b, .int .i64 ((V.str r.va)).n, .str ((V.str r.va)).s, .lst .any 6 (rowsV ((V.str r.va)).l), .lst .any 7 (rowsM ((V.str r.va)).m)]), .v (.agg (.str kValues :: [.int .i64 ((V.str r.va)).kind, .bool ((V.str r.va)).b, .int .i64 ((V.str r.va)).n, .str ((V.str r.va)).s, .lst .any 6 (rowsV ((V.str r.va)).l), .lst .any 7 (rowsM ((V.str r.va)).m)])), .v (.agg [.int .i64 ((recV r)).kind, .bool ((recV r)).b, .int .i64 ((recV r)).n, .str ((recV r)).s, .lst .any 6 (rowsV ((recV r)).l), .lst .any 7 (rowsM ((recV r)).m)])]) (by rfl) ?_ ?_
  · ((repeat' apply And.intro) <;> first | trivial | omega | (simp only [List.length_nil, List.length_cons]; omega) | (intro hgd; first | (rw [hgd]; rfl) | (refine ⟨?_, by repeat (first | exact trivial | refine ⟨hgd, ?_⟩)⟩; (repeat' apply And.intro) <;> first | trivial | omega | (intro h2; rw [hgd, h2]; rfl) | skip)) | skip)
    all_goals first | exact treeStr_a _ | exact treeInt_a _ | exact pair_a _ _ | exact hM | skip
  (repeat (first | apply AK.seq | apply AK.block | apply AK.blk | apply AK.skip | (refine AK.reg follows_any (rs := []) (by rfl) ?_ ?_; first | exact trivial | exact ⟨trivial, trivial⟩ | exact ⟨trivial, trivial, trivial⟩ | exact ⟨trivial, trivial, trivial, trivial⟩ | fail) | fail))
  refine AK.ret ⟨_, rfl, ?_⟩
  rfl
theorem text_a (a b c : ByteArray) (v x : V) (key : ByteArray) (hg : v.good) (hsz : v.size ≤ 1000000000000) (h : mfind key v.m = some x) : AC Tryz.prog 25 [.str key, .ro (.str a :: .str b :: .str c :: [.int .i64 (v).kind, .bool (v).b, .int .i64 (v).n, .str (v).s, .lst .any 6 (rowsV (v).l), .lst .any 7 (rowsM (v).m)])] (.str x.s) := by
  have hG := treeGet_some clone_ok hg hsz h
  refine AC.enter Tryz.func25 a_record_Decode_1_ok a_record_Decode_1_cb (by rfl) fun E hE => ?_
  show AK _ _ _ [.c b_record_Decode_1] _ _
  rw [b_record_Decode_1]
  (repeat (first | apply AK.seq | apply AK.block | apply AK.blk | apply AK.skip | (refine AK.reg follows_any (rs := []) (by rfl) ?_ ?_; first | exact trivial | exact ⟨trivial, trivial⟩ | exact ⟨trivial, trivial, trivial⟩ | exact ⟨trivial, trivial, trivial, trivial⟩ | fail) | fail))
  refine AK.reg follows_any (rs := [.v (.tup [.agg [.int .i64 (x).kind, .bool (x).b, .int .i64 (x).n, .str (x).s, .lst .any 6 (rowsV (x).l), .lst .any 7 (rowsM (x).m)], .bool true])]) (by rfl) ?_ ?_
  · ((repeat' apply And.intro) <;> first | trivial | omega | (simp only [List.length_nil, List.length_cons]; omega) | (intro hgd; first | (rw [hgd]; rfl) | (refine ⟨?_, by repeat (first | exact trivial | refine ⟨hgd, ?_⟩)⟩; (repeat' apply And.intro) <;> first | trivial | omega | (intro h2; rw [hgd, h2]; rfl) | skip)) | skip)
  (repeat (first | apply AK.seq | apply AK.block | apply AK.blk | apply AK.skip | (refine AK.reg follows_any (rs := []) (by rfl) ?_ ?_; first | exact trivial | exact ⟨trivial, trivial⟩ | exact ⟨trivial, trivial, trivial⟩ | exact ⟨trivial, trivial, trivial, trivial⟩ | fail) | fail))
  refine AK.ret ⟨_, rfl, ?_⟩
  rfl
theorem number_a (a b c : ByteArray) (v x : V) (key : ByteArray) (hg : v.good) (hsz : v.size ≤ 1000000000000) (h : mfind key v.m = some x) : AC Tryz.prog 27 [.str key, .ro (.str a :: .str b :: .str c :: [.int .i64 (v).kind, .bool (v).b, .int .i64 (v).n, .str (v).s, .lst .any 6 (rowsV (v).l), .lst .any 7 (rowsM (v).m)])] (.int .i64 x.n) := by
  have hG := treeGet_some clone_ok hg hsz h
  refine AC.enter Tryz.func27 a_record_Decode_2_ok a_record_Decode_2_cb (by rfl) fun E hE => ?_
  show AK _ _ _ [.c b_record_Decode_2] _ _
  rw [b_record_Decode_2]
  (repeat (first | apply AK.seq | apply AK.block | apply AK.blk | apply AK.skip | (refine AK.reg follows_any (rs := []) (by rfl) ?_ ?_; first | exact trivial | exact ⟨trivial, trivial⟩ | exact ⟨trivial, trivial, trivial⟩ | exact ⟨trivial, trivial, trivial, trivial⟩ | fail) | fail))
  refine AK.reg follows_any (rs := [.v (.tup [.agg [.int .i64 (x).kind, .bool (x).b, .int .i64 (x).n, .str (x).s, .lst .any 6 (rowsV (x).l), .lst .any 7 (rowsM (x).m)], .bool true])]) (by rfl) ?_ ?_
  · ((repeat' apply And.intro) <;> first | trivial | omega | (simp only [List.length_nil, List.length_cons]; omega) | (intro hgd; first | (rw [hgd]; rfl) | (refine ⟨?_, by repeat (first | exact trivial | refine ⟨hgd, ?_⟩)⟩; (repeat' apply And.intro) <;> first | trivial | omega | (intro h2; rw [hgd, h2]; rfl) | skip)) | skip)
  (repeat (first | apply AK.seq | apply AK.block | apply AK.blk | apply AK.skip | (refine AK.reg follows_any (rs := []) (by rfl) ?_ ?_; first | exact trivial | exact ⟨trivial, trivial⟩ | exact ⟨trivial, trivial, trivial⟩ | exact ⟨trivial, trivial, trivial, trivial⟩ | fail) | fail))
  refine AK.ret ⟨_, rfl, ?_⟩
  rfl
/-- the record of another one's body -/
def rc0 : List AV := [.str ⟨#[]⟩, .int .i64 0, .int .i64 0, .int .i64 0, .str ⟨#[]⟩, .str ⟨#[]⟩, .str ⟨#[]⟩]
def decA (a b : Rc) : AV := if a.rel = b.rel ∧ a.rev = b.rev then .tup [.agg (rcA a), .int .i64 0] else .tup [.agg rc0, .int .i64 35]
set_option maxHeartbeats 1000000 in
theorem decode_a (a : Rc) (b : ByteArray) (n : Nat) (ha : rcOk a = true) (hz : a.sz) (hw : a.w) (hb : nameB b = true) (h1 : 1 ≤ n) (h2 : n ≤ 1000000) :
    AC Tryz.prog 8 [.agg ([.str hidB, .str defB, .str (idB b n)] ++ [.int .i64 ((recV a)).kind, .bool ((recV a)).b, .int .i64 ((recV a)).n, .str ((recV a)).s, .lst .any 6 (rowsV ((recV a)).l), .lst .any 7 (rowsM ((recV a)).m)])] (if a.rel = b ∧ a.rev = n then .tup [.agg (rcA a), .int .i64 0] else .tup [.agg rc0, .int .i64 35]) := by
  have hg := rec_good ha
  have hsz : (recV a).size ≤ 1000000000000 := by rw [rec_size]; omega
  have f1 : mfind kChart (recV a).m = some (V.str a.ch) := rfl
  have hO := owner_a b n hb h1 h2
  have hE := encode_a a
  have hR := recRight_a a hz
  rw [ha] at hR
  have hS := treeSame_a (recV a) (recV a) hg hg (by rw [rec_size]; omega) (by rw [rec_size]; omega)
  rw [V.sameB_true.2 rfl] at hS
  have t1 := text_a hidB defB (idB b n) (recV a) (V.str a.rel) kRelease hg hsz rfl
  have t2 := number_a hidB defB (idB b n) (recV a) (V.int a.rev) kRevision hg hsz rfl
  have t3 := number_a hidB defB (idB b n) (recV a) (V.int a.st) kStatus hg hsz rfl
  have t4 := number_a hidB defB (idB b n) (recV a) (V.int a.cmd) kCommand hg hsz rfl
  have t5 := text_a hidB defB (idB b n) (recV a) (V.str a.ch) kChart hg hsz rfl
  have t6 := text_a hidB defB (idB b n) (recV a) (V.str a.va) kValues hg hsz rfl
  have t7 := text_a hidB defB (idB b n) (recV a) (V.str a.ma) kManifest hg hsz rfl
  clear f1
  generalize recV a = v at *
  generalize idB b n = nm at *
  refine AC.enter Tryz.func8 a_record_Decode_ok a_record_Decode_cb (by rfl) fun E hE => ?_
  show AK _ _ _ [.c b_record_Decode] _ _
  rw [b_record_Decode]
  (repeat (first | apply AK.seq | apply AK.block | apply AK.blk | apply AK.skip | (refine AK.reg follows_any (rs := []) (by rfl) ?_ ?_; first | exact trivial | exact ⟨trivial, trivial⟩ | exact ⟨trivial, trivial, trivial⟩ | exact ⟨trivial, trivial, trivial, trivial⟩ | fail) | fail))
  refine AK.reg follows_any (rs := [.v (.str a.rel), .v (.int .i64 a.rev), .v (.int .i64 a.st), .v (.int .i64 a.cmd), .v (.str a.ch), .v (.str a.va), .v (.str a.ma)]) (by rfl) ?_ ?_
  · ((repeat' apply And.intro) <;> first | trivial | omega | (simp only [List.length_nil, List.length_cons]; omega) | (intro hgd; first | (rw [hgd]; rfl) | (refine ⟨?_, by repeat (first | exact trivial | refine ⟨hgd, ?_⟩)⟩; (repeat' apply And.intro) <;> first | trivial | omega | (intro h2; rw [hgd, h2]; rfl) | skip)) | skip)
    all_goals first | exact t1 | exact t2 | exact t3 | exact t4 | exact t5 | exact t6 | exact t7 | skip
  (repeat (first | apply AK.seq | apply AK.block | apply AK.blk | apply AK.skip | (refine AK.reg follows_any (rs := []) (by rfl) ?_ ?_; first | exact trivial | exact ⟨trivial, trivial⟩ | exact ⟨trivial, trivial, trivial⟩ | exact ⟨trivial, trivial, trivial, trivial⟩ | fail) | fail))
  refine AK.reg follows_any (rs := [.v (.tup [.str b, .int .i64 n, .bool true])]) (by rfl) ?_ ?_
  · ((repeat' apply And.intro) <;> first | trivial | omega | (simp only [List.length_nil, List.length_cons]; omega) | (intro hgd; first | (rw [hgd]; rfl) | (refine ⟨?_, by repeat (first | exact trivial | refine ⟨hgd, ?_⟩)⟩; (repeat' apply And.intro) <;> first | trivial | omega | (intro h2; rw [hgd, h2]; rfl) | skip)) | skip)
  (repeat (first | apply AK.seq | apply AK.block | apply AK.blk | apply AK.skip | (refine AK.reg follows_any (rs := []) (by rfl) ?_ ?_; first | exact trivial | exact ⟨trivial, trivial⟩ | exact ⟨trivial, trivial, trivial⟩ | exact ⟨trivial, trivial, trivial, trivial⟩ | fail) | fail))
  refine AK.reg follows_any (rs := [.v (.bool true), .v (.agg [.int .i64 (v).kind, .bool (v).b, .int .i64 (v).n, .str (v).s, .lst .any 6 (rowsV (v).l), .lst .any 7 (rowsM (v).m)]), .v (.bool true)]) (by rfl) ?_ ?_
  · ((repeat' apply And.intro) <;> first | trivial | omega | (simp only [List.length_nil, List.length_cons]; omega) | (intro hgd; first | (rw [hgd]; rfl) | (refine ⟨?_, by repeat (first | exact trivial | refine ⟨hgd, ?_⟩)⟩; (repeat' apply And.intro) <;> first | trivial | omega | (intro h2; rw [hgd, h2]; rfl) | skip)) | skip)
    all_goals first | exact hE | exact hS | exact hR | skip
  refine AK.cond (by rfl) (fun hb => ?_) (fun hb => ?_)
  · have hne : ¬ (a.rel = b ∧ a.rev = n) := by
      rintro ⟨e1, e2⟩
      simp [e1, e2] at hb
    rw [if_neg hne]
    (repeat (first | apply AK.seq | apply AK.block | apply AK.blk | apply AK.skip | (refine AK.reg follows_any (rs := []) (by rfl) ?_ ?_; first | exact trivial | exact ⟨trivial, trivial⟩ | exact ⟨trivial, trivial, trivial⟩ | exact ⟨trivial, trivial, trivial, trivial⟩ | fail) | fail))
    refine AK.ret ⟨_, rfl, ?_⟩
    rfl
  · have he : a.rel = b ∧ a.rev = n := by
      simp at hb
      exact ⟨hb.1.symm, hb.2.symm⟩
    rw [if_pos he]
    (repeat (first | apply AK.seq | apply AK.block | apply AK.blk | apply AK.skip | (refine AK.reg follows_any (rs := []) (by rfl) ?_ ?_; first | exact trivial | exact ⟨trivial, trivial⟩ | exact ⟨trivial, trivial, trivial⟩ | exact ⟨trivial, trivial, trivial, trivial⟩ | fail) | fail))
    refine AK.ret ⟨_, rfl, ?_⟩
    rfl
end Go.Proofs.YtgcodocajgdmcaaGreatDoor
