/-
  The example of the values' statements, walked.
-/
import Derived.Test.YtfnpjakekeojoaaGreatDoorSt2
import Derived.Test.YtfnpjakekeojoaaGreatDoorDp5
namespace Go.Proofs.YtfnpjakekeojoaaGreatDoor
set_option linter.unusedSimpArgs false
set_option linter.unusedVariables false
open Go.RowKit

def awS : ByteArray := ⟨#[98, 46, 99, 61, 120]⟩
def awV : V := vMap [(⟨#[97]⟩, V.int 1)]
def awR : V := vMap [(⟨#[97]⟩, V.int 1), (⟨#[98]⟩, vMap [(⟨#[99]⟩, V.str ⟨#[120]⟩)])]
theorem aw_set : setP awV awS = (awR, 0) := by
  have c1 : cutB awS 61 = (⟨#[98, 46, 99]⟩, ⟨#[120]⟩, true) := by kernel_rfl
  have c2 : pathP ⟨#[98, 46, 99]⟩ = ([⟨#[98]⟩, ⟨#[99]⟩], 0) := by kernel_rfl
  have c3 : wordP ⟨#[120]⟩ = (V.str ⟨#[120]⟩, 0) := by kernel_rfl
  have c4 : overN 100 awV (nest (V.str ⟨#[120]⟩) [⟨#[98]⟩, ⟨#[99]⟩]) = awR := by
    have h1 : cmpS ⟨#[97]⟩ ⟨#[98]⟩ < 0 := by decide +kernel
    rw [overN, if_pos ⟨rfl, rfl⟩]
    show vMap (mergeO (overN 99) [(⟨#[97]⟩, V.int 1)] [(⟨#[98]⟩, vMap [(⟨#[99]⟩, V.str ⟨#[120]⟩)])]) = awR
    rw [mergeO, if_pos h1, mergeO, if_neg (by decide), mergeO]
    rfl
  have c5 : awR.checkC = 0 := by kernel_rfl
  unfold setP
  rw [c1]
  dsimp only
  rw [c2, c3, if_neg (by decide), if_neg (by decide), if_neg (by decide)]
  dsimp only
  rw [c4, c5, if_neg (by decide)]
theorem awake_a : AC Tryz.prog 8 [] (.bool true) := by
  have hord : awV.ord := vMap_ord (List.pairwise_singleton _ _) fun p hp => by
    rw [List.mem_singleton.1 hp]
    exact (leaf_mk (k := 2) (b := false) (n := 1) (s := ⟨#[]⟩) (by decide) (by decide)).1
  have htx : awV.tx := vMap_tx fun p hp => by
    rw [List.mem_singleton.1 hp]
    exact ⟨by decide, (leaf_mk (k := 2) (b := false) (n := 1) (s := ⟨#[]⟩) (by decide) (by decide)).2.1⟩
  have hI := treeInt_a 1
  have hM := treeMap_a [(⟨#[97]⟩, V.int 1)] (by decide +kernel)
  have hS := set_a drop_ok awV awS hord htx (by decide +kernel) (by decide +kernel)
  rw [aw_set] at hS
  have hRo : awR.ord := by
    refine vMap_ord (List.pairwise_cons.2 ⟨fun p hp => by rw [List.mem_singleton.1 hp]; show Op.bytesLess _ _ = true; decide +kernel, List.pairwise_singleton _ _⟩) fun p hp => ?_
    rcases List.mem_cons.1 hp with rfl | hp
    · exact (leaf_mk (k := 2) (b := false) (n := 1) (s := ⟨#[]⟩) (by decide) (by decide)).1
    · rw [List.mem_singleton.1 hp]
      refine vMap_ord (List.pairwise_singleton _ _) fun p hp => ?_
      rw [List.mem_singleton.1 hp]
      exact (leaf_mk (k := 3) (b := false) (n := 0) (s := ⟨#[120]⟩) (by decide) (by decide)).1
  have hG : AC Tryz.prog 27 [.agg [.int .i64 (awR).kind, .bool (awR).b, .int .i64 (awR).n, .str (awR).s, .lst .any 6 (rowsV (awR).l), .lst .any 7 (rowsM (awR).m)], .str ⟨#[98]⟩] (.tup [.agg [.int .i64 ((vMap [(⟨#[99]⟩, V.str ⟨#[120]⟩)])).kind, .bool ((vMap [(⟨#[99]⟩, V.str ⟨#[120]⟩)])).b, .int .i64 ((vMap [(⟨#[99]⟩, V.str ⟨#[120]⟩)])).n, .str ((vMap [(⟨#[99]⟩, V.str ⟨#[120]⟩)])).s, .lst .any 6 (rowsV ((vMap [(⟨#[99]⟩, V.str ⟨#[120]⟩)])).l), .lst .any 7 (rowsM ((vMap [(⟨#[99]⟩, V.str ⟨#[120]⟩)])).m)], .bool true]) := treeGet_o awR ⟨#[98]⟩ hRo (by decide +kernel)
  refine AC.enter Tryz.func8 a_law11_awake_ok a_law11_awake_cb (by rfl) fun E hE => ?_
  show AK _ _ _ [.c b_law11_awake] _ _
  rw [b_law11_awake]
  (repeat (first | apply kS | apply kB | apply kL | apply kN | (refine kR follows_any [] (by rfl) ?_ ?_; first | exact kT1 | exact kT2 | exact kT3 | exact kT4)))
  refine kR follows_any [.v (.agg [.int .i64 ((V.int 1)).kind, .bool ((V.int 1)).b, .int .i64 ((V.int 1)).n, .str ((V.int 1)).s, .lst .any 6 (rowsV ((V.int 1)).l), .lst .any 7 (rowsM ((V.int 1)).m)]), .v (.agg [.int .i64 (awV).kind, .bool (awV).b, .int .i64 (awV).n, .str (awV).s, .lst .any 6 (rowsV (awV).l), .lst .any 7 (rowsM (awV).m)]), .v (.tup [.agg [.int .i64 (awR).kind, .bool (awR).b, .int .i64 (awR).n, .str (awR).s, .lst .any 6 (rowsV (awR).l), .lst .any 7 (rowsM (awR).m)], .int .i64 0])] (by rfl) ?_ ?_
  · ((repeat' apply And.intro) <;> first | trivial | omega | (simp only [List.length_nil, List.length_cons]; omega) | (intro hgd; first | (rw [hgd]; rfl) | (refine ⟨?_, by repeat (first | exact trivial | refine ⟨hgd, ?_⟩)⟩; (repeat' apply And.intro) <;> first | trivial | omega | (intro h2; rw [hgd, h2]; rfl) | skip)) | skip)
  (repeat (first | apply kS | apply kB | apply kL | apply kN | (refine kR follows_any [] (by rfl) ?_ ?_; first | exact kT1 | exact kT2 | exact kT3 | exact kT4)))
  refine kR follows_any [.v (.tup [.agg [.int .i64 ((vMap [(⟨#[99]⟩, V.str ⟨#[120]⟩)])).kind, .bool ((vMap [(⟨#[99]⟩, V.str ⟨#[120]⟩)])).b, .int .i64 ((vMap [(⟨#[99]⟩, V.str ⟨#[120]⟩)])).n, .str ((vMap [(⟨#[99]⟩, V.str ⟨#[120]⟩)])).s, .lst .any 6 (rowsV ((vMap [(⟨#[99]⟩, V.str ⟨#[120]⟩)])).l), .lst .any 7 (rowsM ((vMap [(⟨#[99]⟩, V.str ⟨#[120]⟩)])).m)], .bool true])] (by rfl) ?_ ?_
  · ((repeat' apply And.intro) <;> first | trivial | omega | (simp only [List.length_nil, List.length_cons]; omega) | (intro hgd; first | (rw [hgd]; rfl) | (refine ⟨?_, by repeat (first | exact trivial | refine ⟨hgd, ?_⟩)⟩; (repeat' apply And.intro) <;> first | trivial | omega | (intro h2; rw [hgd, h2]; rfl) | skip)) | skip)
  (repeat (first | apply kS | apply kB | apply kL | apply kN | (refine kR follows_any [] (by rfl) ?_ ?_; first | exact kT1 | exact kT2 | exact kT3 | exact kT4)))
  refine kR follows_any [.c (.str ⟨#[99]⟩ :: [.int .i64 ((V.str ⟨#[120]⟩)).kind, .bool ((V.str ⟨#[120]⟩)).b, .int .i64 ((V.str ⟨#[120]⟩)).n, .str ((V.str ⟨#[120]⟩)).s, .lst .any 6 (rowsV ((V.str ⟨#[120]⟩)).l), .lst .any 7 (rowsM ((V.str ⟨#[120]⟩)).m)])] (by rfl) ?_ ?_
  · ((repeat' apply And.intro) <;> first | trivial | omega | (simp only [List.length_nil, List.length_cons]; omega) | (intro hgd; first | (rw [hgd]; rfl) | (refine ⟨?_, by repeat (first | exact trivial | refine ⟨hgd, ?_⟩)⟩; (repeat' apply And.intro) <;> first | trivial | omega | (intro h2; rw [hgd, h2]; rfl) | skip)) | skip)
  (repeat (first | apply kS | apply kB | apply kL | apply kN | (refine kR follows_any [] (by rfl) ?_ ?_; first | exact kT1 | exact kT2 | exact kT3 | exact kT4)))
  refine AK.ret ⟨_, rfl, ?_⟩
  rfl
end Go.Proofs.YtfnpjakekeojoaaGreatDoor
