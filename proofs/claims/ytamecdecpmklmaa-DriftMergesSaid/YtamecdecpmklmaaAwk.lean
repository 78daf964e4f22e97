/-
  The document's example of drift, walked.
-/
import Derived.Test.YtamecdecpmklmaaMap
import Derived.Test.YtamecdecpmklmaaPr8
namespace Go.Proofs.Ytamecdecpmklmaa
set_option linter.unusedSimpArgs false
set_option linter.unusedVariables false
open Go.RowKit

theorem treeInt_a (n : Int) : AC Try.prog 24 [.int .i64 n] (.agg [.int .i64 2, .bool false, .int .i64 n, .str ⟨#[]⟩, .lst .any 6 [], .lst .any 7 []]) := by
  refine AC.enter Try.func24 a_tree_Int_ok a_tree_Int_cb (by rfl) fun E hE => ?_
  show AK _ _ _ [.c b_tree_Int] _ _
  rw [b_tree_Int]
  (repeat (first | apply AK.seq | apply AK.block | apply AK.blk | apply AK.skip | (refine AK.reg follows_any (rs := []) (by rfl) ?_ ?_; first | exact trivial | exact ⟨trivial, trivial⟩ | exact ⟨trivial, trivial, trivial⟩ | exact ⟨trivial, trivial, trivial, trivial⟩ | fail) | fail))
  refine AK.ret ⟨_, rfl, ?_⟩
  rfl
def bA : ByteArray := ⟨#[97]⟩
def bB : ByteArray := ⟨#[98]⟩
def vInt (n : Int) : V := .mk 2 false n ⟨#[]⟩ [] []
def vMap (m : List (ByteArray × V)) : V := .mk 5 false 0 ⟨#[]⟩ [] m
theorem bA_lt : klt bA bB := by simp [klt, bA, bB, ByteArray.toList_eq, Op.bytesLess]
theorem bA_ne : bA ≠ bB := klt_ne bA_lt
theorem vInt_good (n : Int) : (vInt n).good := by
  simp [vInt, V.good, goodL, goodM, risingK, kbad, textB, allB, noBytes, ByteArray.size]
theorem vMap_good {m : List (ByteArray × V)} (hk : ∀ p ∈ m, keyB p.1 = true ∧ p.2.good) (hr : risingK m) : (vMap m).good := by
  rw [vMap, V.good]
  refine ⟨by simp [kbad, noBytes], by simp [textB, allB, ByteArray.size], trivial, (goodM_iff m).2 hk, hr⟩
theorem keyA : keyB bA = true := by simp [keyB, allB, bA, okK, ByteArray.size]
theorem keyBB : keyB bB = true := by simp [keyB, allB, bB, okK, ByteArray.size]
def exLive : V := vMap [(bA, vInt 1), (bB, vInt 2)]
def exWant : V := vMap [(bA, vInt 3)]
theorem exLive_good : exLive.good := vMap_good (by intro p hp; simp at hp; rcases hp with rfl | rfl; exact ⟨keyA, vInt_good _⟩; exact ⟨keyBB, vInt_good _⟩) ⟨bA_lt, trivial⟩
theorem exWant_good : exWant.good := vMap_good (by intro p hp; simp at hp; subst hp; exact ⟨keyA, vInt_good _⟩) trivial
theorem ex_changes : changes exLive exWant = [(2, [bA]), (3, [bB])] := by
  have h1 : exLive.leaves = [([bA], vInt 1), ([bB], vInt 2)] := by simp [exLive, vMap, V.leaves, leavesM, vInt]
  have h2 : exWant.leaves = [([bA], vInt 3)] := by simp [exWant, vMap, V.leaves, leavesM, vInt]
  have h3 : (vInt 1).sameB (vInt 3) = false := V.sameB_false.2 (by simp [vInt])
  have h4 : exLive.get [bA] = some (vInt 1) := by simp [exLive, vMap, V.get, mfind, V.m]
  have hn := bA_ne
  have hn2 : ¬ bB = bA := fun e => hn e.symm
  rw [changes, h1, h2]
  simp [chgA, chgB, chg1, chg3, h4, h3, owned, begins, hn, hn2]
theorem map2 : mapOf [(bA, vInt 1), (bB, vInt 2)] = [(bA, vInt 1), (bB, vInt 2)] := mapOf_rises (by simp [Rises, bA_lt])
theorem map1 : mapOf [(bA, vInt 3)] = [(bA, vInt 3)] := mapOf_rises (by simp [Rises])
theorem awake_a : AwakeOk := by
  unfold AwakeOk
  refine AC.enter Try.func7 a_law21_awake_ok a_law21_awake_cb (by rfl) fun E hE => ?_
  show AK _ _ _ [.c b_law21_awake] _ _
  rw [b_law21_awake]
  (repeat (first | apply AK.seq | apply AK.block | apply AK.blk | apply AK.skip | (refine AK.reg follows_any (rs := []) (by rfl) ?_ ?_; first | exact trivial | exact ⟨trivial, trivial⟩ | exact ⟨trivial, trivial, trivial⟩ | exact ⟨trivial, trivial, trivial, trivial⟩ | fail) | fail))
  refine AK.reg follows_any (rs := [.v (.agg [.int .i64 2, .bool false, .int .i64 1, .str ⟨#[]⟩, .lst .any 6 [], .lst .any 7 []]), .v (.agg [.int .i64 2, .bool false, .int .i64 2, .str ⟨#[]⟩, .lst .any 6 [], .lst .any 7 []]), .v (.agg [.int .i64 (exLive).kind, .bool (exLive).b, .int .i64 (exLive).n, .str (exLive).s, .lst .any 6 (rowsV (exLive).l), .lst .any 7 (rowsM (exLive).m)])]) (by rfl) ?_ ?_
  · ((repeat' apply And.intro) <;> first | trivial | omega | (simp only [List.length_nil, List.length_cons]; omega) | (intro hgd; first | (rw [hgd]; rfl) | (refine ⟨?_, by repeat (first | exact trivial | refine ⟨hgd, ?_⟩)⟩; (repeat' apply And.intro) <;> first | trivial | omega | (intro h2; rw [hgd, h2]; rfl) | skip)) | skip)
    · exact treeInt_a 1
    · exact treeInt_a 2
    · have := treeMap_a [(bA, vInt 1), (bB, vInt 2)] (by simp [sizeM, vInt, V.size, sizeL])
      rw [map2] at this
      exact this
  (repeat (first | apply AK.seq | apply AK.block | apply AK.blk | apply AK.skip | (refine AK.reg follows_any (rs := []) (by rfl) ?_ ?_; first | exact trivial | exact ⟨trivial, trivial⟩ | exact ⟨trivial, trivial, trivial⟩ | exact ⟨trivial, trivial, trivial, trivial⟩ | fail) | fail))
  refine AK.reg follows_any (rs := [.v (.agg [.int .i64 2, .bool false, .int .i64 3, .str ⟨#[]⟩, .lst .any 6 [], .lst .any 7 []]), .v (.agg [.int .i64 (exWant).kind, .bool (exWant).b, .int .i64 (exWant).n, .str (exWant).s, .lst .any 6 (rowsV (exWant).l), .lst .any 7 (rowsM (exWant).m)]), .v (.lst .any 5 (rowsDc ⟨#[]⟩ ⟨#[]⟩ ⟨#[]⟩ [(2, [bA]), (3, [bB])]))]) (by rfl) ?_ ?_
  · ((repeat' apply And.intro) <;> first | trivial | omega | (simp only [List.length_nil, List.length_cons]; omega) | (intro hgd; first | (rw [hgd]; rfl) | (refine ⟨?_, by repeat (first | exact trivial | refine ⟨hgd, ?_⟩)⟩; (repeat' apply And.intro) <;> first | trivial | omega | (intro h2; rw [hgd, h2]; rfl) | skip)) | skip)
    · exact treeInt_a 3
    · have := treeMap_a [(bA, vInt 3)] (by simp [sizeM, vInt, V.size, sizeL])
      rw [map1] at this
      exact this
    · have := driftCompare_a clone_ok ⟨#[]⟩ ⟨#[]⟩ ⟨#[]⟩ exLive exWant exLive_good exWant_good (by simp [exLive, vMap, V.size, sizeL, sizeM, vInt]) (by simp [exWant, vMap, V.size, sizeL, sizeM, vInt])
      rw [ex_changes] at this
      exact this
  (repeat (first | apply AK.seq | apply AK.block | apply AK.blk | apply AK.skip | (refine AK.reg follows_any (rs := []) (by rfl) ?_ ?_; first | exact trivial | exact ⟨trivial, trivial⟩ | exact ⟨trivial, trivial, trivial⟩ | exact ⟨trivial, trivial, trivial, trivial⟩ | fail) | fail))
  refine AK.reg follows_any (rs := [.c [.int .i64 2, .str ⟨#[]⟩, .str ⟨#[]⟩, .str ⟨#[]⟩, .lst .any 1 (rowsP [bA])], .c [.int .i64 3, .str ⟨#[]⟩, .str ⟨#[]⟩, .str ⟨#[]⟩, .lst .any 1 (rowsP [bB])], .c [.int .i64 3, .str ⟨#[]⟩, .str ⟨#[]⟩, .str ⟨#[]⟩, .lst .any 1 (rowsP [bB])], .c [.int .i64 3, .str ⟨#[]⟩, .str ⟨#[]⟩, .str ⟨#[]⟩, .lst .any 1 (rowsP [bB])], .c [.str bB]]) (by rfl) ?_ ?_
  · ((repeat' apply And.intro) <;> first | trivial | omega | (simp only [List.length_nil, List.length_cons]; omega) | (intro hgd; first | (rw [hgd]; rfl) | (refine ⟨?_, by repeat (first | exact trivial | refine ⟨hgd, ?_⟩)⟩; (repeat' apply And.intro) <;> first | trivial | omega | (intro h2; rw [hgd, h2]; rfl) | skip)) | skip)
  (repeat (first | apply AK.seq | apply AK.block | apply AK.blk | apply AK.skip | (refine AK.reg follows_any (rs := []) (by rfl) ?_ ?_; first | exact trivial | exact ⟨trivial, trivial⟩ | exact ⟨trivial, trivial, trivial⟩ | exact ⟨trivial, trivial, trivial, trivial⟩ | fail) | fail))
  refine AK.ret ⟨_, rfl, ?_⟩
  rfl
end Go.Proofs.Ytamecdecpmklmaa
