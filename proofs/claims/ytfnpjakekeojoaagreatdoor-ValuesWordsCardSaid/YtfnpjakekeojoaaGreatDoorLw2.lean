/-
  The example of the values' statements, walked.
-/
import Derived.Test.YtfnpjakekeojoaaGreatDoorLw1
import Derived.Test.YtfnpjakekeojoaaGreatDoorSt2
import Derived.Test.YtfnpjakekeojoaaGreatDoorDp5
import Derived.Test.YtfnpjakekeojoaaGreatDoorDrS
namespace Go.Proofs.YtfnpjakekeojoaaGreatDoor
set_option linter.unusedSimpArgs false
set_option linter.unusedVariables false
open Go.RowKit

def awS : ByteArray := ⟨#[98, 46, 99, 61, 120]⟩
def awV : V := vMap [(⟨#[97]⟩, V.int 1)]
def awR : V := vMap [(⟨#[97]⟩, V.int 1), (⟨#[98]⟩, vMap [(⟨#[99]⟩, V.str ⟨#[120]⟩)])]
theorem aw_set : setP awV awS = (awR, 0) := by
  have c1 : cutB awS 61 = (⟨#[98, 46, 99]⟩, ⟨#[120]⟩, true) := by kernel_rfl
  have c2 : pathP ⟨#[98, 46, 99]⟩ = ([⟨#[98]⟩, ⟨#[99]⟩], 0) := by kernel_rfl
  have c3 : wordP ⟨#[120]⟩ = (V.str ⟨#[120]⟩, 0) := by kernel_rfl
  have c4 : overN 100 awV (nest (V.str ⟨#[120]⟩) [⟨#[98]⟩, ⟨#[99]⟩]) = awR := by
    have h1 : cmpS ⟨#[97]⟩ ⟨#[98]⟩ < 0 := by decide +kernel
    rw [overN, if_pos ⟨rfl, rfl⟩]
    show vMap (mergeO (overN 99) [(⟨#[97]⟩, V.int 1)] [(⟨#[98]⟩, vMap [(⟨#[99]⟩, V.str ⟨#[120]⟩)])]) = awR
    rw [mergeO, if_pos h1, mergeO, if_neg (by decide), mergeO]
    rfl
  have c5 : awR.checkC = 0 := by kernel_rfl
  unfold setP
  rw [c1]
  dsimp only
  rw [c2, c3, if_neg (by decide), if_neg (by decide), if_neg (by decide)]
  dsimp only
  rw [c4, c5, if_neg (by decide)]
theorem awake_a : AC Tryz.prog 8 [] (.bool true) := by
  have hord : awV.ord := vMap_ord (List.pairwise_singleton _ _) fun p hp => by
    rw [List.mem_singleton.1 hp]
    exact (leaf_mk (k := 2) (b := false) (n := 1) (s := ⟨#[]⟩) (by decide) (by decide)).1
  have htx : awV.tx := vMap_tx fun p hp => by
    rw [List.mem_singleton.1 hp]
    exact ⟨by decide, (leaf_mk (k := 2) (b := false) (n := 1) (s := ⟨#[]⟩) (by decide) (by decide)).2.1⟩
  have hI := treeInt_a 1
  have hM := treeMap_a [(⟨#[97]⟩, V.int 1)] (by decide +kernel)
  have hS := set_a drop_ok awV awS hord htx (by decide +kernel) (by decide +kernel)
  rw [aw_set] at hS
  have hRo : awR.ord := by
    refine vMap_ord (List.pairwise_cons.2 ⟨fun p hp => by rw [List.mem_singleton.1 hp]; show Op.bytesLess _ _ = true; decide +kernel, List.pairwise_singleton _ _⟩) fun p hp => ?_
    rcases List.mem_cons.1 hp with rfl | hp
    · exact (leaf_mk (k := 2) (b := false) (n := 1) (s := ⟨#[]⟩) (by decide) (by decide)).1
    · rw [List.mem_singleton.1 hp]
      refine vMap_ord (List.pairwise_singleton _ _) fun p hp => ?_
      rw [List.mem_singleton.1 hp]
      exact (leaf_mk (k := 3) (b := false) (n := 0) (s := ⟨#[120]⟩) (by decide) (by decide)).1
  have hG : AC Tryz.prog 27 [.agg [.int .i64 (awR).kind, .bool (awR).b, .int .i64 (awR).n, .str (awR).s, .lst .any 6 (rowsV (awR).l), .lst .any 7 (rowsM (awR).m)], .str ⟨#[98]⟩] (.tup [.agg [.int .i64 ((vMap [(⟨#[99]⟩, V.str ⟨#[120]⟩)])).kind, .bool ((vMap [(⟨#[99]⟩, V.str ⟨#[120]⟩)])).b, .int .i64 ((vMap [(⟨#[99]⟩, V.str ⟨#[120]⟩)])).n, .str ((vMap [(⟨#[99]⟩, V.str ⟨#[120]⟩)])).s, .lst .any 6 (rowsV ((vMap [(⟨#[99]⟩, V.str ⟨#[120]⟩)])).l), .lst .any 7 (rowsM ((vMap [(⟨#[99]⟩, V.str ⟨#[120]⟩)])).m)], .bool true]) := treeGet_o awR ⟨#[98]⟩ hRo (by decide +kernel)
  refine AC.enter Tryz.func8 a_law11_awake_ok a_law11_awake_cb (by rfl) fun E hE => ?_
  show AK _ _ _ [.c b_law11_awake] _ _
  rw [b_law11_awake]
  (repeat (first | apply AK.seq | apply AK.block | apply AK.blk | apply AK.skip | (refine AK.reg follows_any (rs := []) (by rfl) ?_ ?_; first | exact trivial | exact ⟨trivial, trivial⟩ | exact ⟨trivial, trivial, trivial⟩ | exact ⟨trivial, trivial, trivial, trivial⟩ | fail) | fail))
  refine AK.reg follows_any (rs := [.v (.agg [.int .i64 ((V.int 1)).kind, .bool ((V.int 1)).b, .int .i64 ((V.int 1)).n, .str ((V.int 1)).s, .lst .any 6 (rowsV ((V.int 1)).l), .lst .any 7 (rowsM ((V.int 1)).m)]), .v (.agg [.int .i64 (awV).kind, .bool (awV).b, .int .i64 (awV).n, .str (awV).s, .lst .any 6 (rowsV (awV).l), .lst .any 7 (rowsM (awV).m)]), .v (.tup [.agg [.int .i64 (awR).kind, .bool (awR).b, .int .i64 (awR).n, .str (awR).s, .lst .any 6 (rowsV (awR).l), .lst .any 7 (rowsM (awR).m)], .int .i64 0])]) (by rfl) ?_ ?_
  · ((repeat' apply And.intro) <;> first | trivial | omega | (simp only [List.length_nil, List.length_cons]; omega) | (intro hgd; first | (rw [hgd]; rfl) | (refine ⟨?_, by repeat (first | exact trivial | refine ⟨hgd, ?_⟩)⟩; (repeat' apply And.intro) <;> first | trivial | omega | (intro h2; rw [hgd, h2]; rfl) | skip)) | skip)
  (repeat (first | apply AK.seq | apply AK.block | apply AK.blk | apply AK.skip | (refine AK.reg follows_any (rs := []) (by rfl) ?_ ?_; first | exact trivial | exact ⟨trivial, trivial⟩ | exact ⟨trivial, trivial, trivial⟩ | exact ⟨trivial, trivial, trivial, trivial⟩ | fail) | fail))
  refine AK.reg follows_any (rs := [.v (.tup [.agg [.int .i64 ((vMap [(⟨#[99]⟩, V.str ⟨#[120]⟩)])).kind, .bool ((vMap [(⟨#[99]⟩, V.str ⟨#[120]⟩)])).b, .int .i64 ((vMap [(⟨#[99]⟩, V.str ⟨#[120]⟩)])).n, .str ((vMap [(⟨#[99]⟩, V.str ⟨#[120]⟩)])).s, .lst .any 6 (rowsV ((vMap [(⟨#[99]⟩, V.str ⟨#[120]⟩)])).l), .lst .any 7 (rowsM ((vMap [(⟨#[99]⟩, V.str ⟨#[120]⟩)])).m)], .bool true])]) (by rfl) ?_ ?_
  · ((repeat' apply And.intro) <;> first | trivial | omega | (simp only [List.length_nil, List.length_cons]; omega) | (intro hgd; first | (rw [hgd]; rfl) | (refine ⟨?_, by repeat (first | exact trivial | refine ⟨hgd, ?_⟩)⟩; (repeat' apply And.intro) <;> first | trivial | omega | (intro h2; rw [hgd, h2]; rfl) | skip)) | skip)
  (repeat (first | apply AK.seq | apply AK.block | apply AK.blk | apply AK.skip | (refine AK.reg follows_any (rs := []) (by rfl) ?_ ?_; first | exact trivial | exact ⟨trivial, trivial⟩ | exact ⟨trivial, trivial, trivial⟩ | exact ⟨trivial, trivial, trivial, trivial⟩ | fail) | fail))
  refine AK.reg follows_any (rs := [.c (.str ⟨#[99]⟩ :: [.int .i64 ((V.str ⟨#[120]⟩)).kind, .bool ((V.str ⟨#[120]⟩)).b, .int .i64 ((V.str ⟨#[120]⟩)).n, .str ((V.str ⟨#[120]⟩)).s, .lst .any 6 (rowsV ((V.str ⟨#[120]⟩)).l), .lst .any 7 (rowsM ((V.str ⟨#[120]⟩)).m)])]) (by rfl) ?_ ?_
  · ((repeat' apply And.intro) <;> first | trivial | omega | (simp only [List.length_nil, List.length_cons]; omega) | (intro hgd; first | (rw [hgd]; rfl) | (refine ⟨?_, by repeat (first | exact trivial | refine ⟨hgd, ?_⟩)⟩; (repeat' apply And.intro) <;> first | trivial | omega | (intro h2; rw [hgd, h2]; rfl) | skip)) | skip)
  (repeat (first | apply AK.seq | apply AK.block | apply AK.blk | apply AK.skip | (refine AK.reg follows_any (rs := []) (by rfl) ?_ ?_; first | exact trivial | exact ⟨trivial, trivial⟩ | exact ⟨trivial, trivial, trivial⟩ | exact ⟨trivial, trivial, trivial, trivial⟩ | fail) | fail))
  refine AK.ret ⟨_, rfl, ?_⟩
  rfl
end Go.Proofs.YtfnpjakekeojoaaGreatDoor
/-
  ValuesWords, walked: it answers true.
-/
namespace Go.Proofs.YtfnpjakekeojoaaGreatDoor
set_option linter.unusedSimpArgs false
set_option linter.unusedVariables false
open Go.RowKit

theorem same_self (v : V) (hv : v.size ≤ 2000000000000) : AC Tryz.prog 12 [.agg [.int .i64 (v).kind, .bool (v).b, .int .i64 (v).n, .str (v).s, .lst .any 6 (rowsV (v).l), .lst .any 7 (rowsM (v).m)], .agg [.int .i64 (v).kind, .bool (v).b, .int .i64 (v).n, .str (v).s, .lst .any 6 (rowsV (v).l), .lst .any 7 (rowsM (v).m)]] (.bool true) := by
  have h := refSame_a v.size v v (Nat.le_refl _) hv
  rw [V.sameB_true.2 rfl] at h
  exact h
theorem valuesWords_a (s : ByteArray) : AC Tryz.prog 5 [.str s] (.bool true) := by
  have hA := awake_a
  refine AC.enter Tryz.func5 a_law11_ValuesWords_ok a_law11_ValuesWords_cb (by rfl) fun E hE => ?_
  show AK _ _ _ [.c b_law11_ValuesWords] _ _
  rw [b_law11_ValuesWords]
  (repeat (first | apply AK.seq | apply AK.block | apply AK.blk | apply AK.skip | (refine AK.reg follows_any (rs := []) (by rfl) ?_ ?_; first | exact trivial | exact ⟨trivial, trivial⟩ | exact ⟨trivial, trivial, trivial⟩ | exact ⟨trivial, trivial, trivial, trivial⟩ | fail) | fail))
  refine AK.cond (by rfl) (fun hb => ?_) (fun hb => ?_)
  · (repeat (first | apply AK.seq | apply AK.block | apply AK.blk | apply AK.skip | (refine AK.reg follows_any (rs := []) (by rfl) ?_ ?_; first | exact trivial | exact ⟨trivial, trivial⟩ | exact ⟨trivial, trivial, trivial⟩ | exact ⟨trivial, trivial, trivial, trivial⟩ | fail) | fail))
    refine AK.reg follows_any (rs := [.v (.bool true)]) (by rfl) ?_ ?_
    · ((repeat' apply And.intro) <;> first | trivial | omega | (simp only [List.length_nil, List.length_cons]; omega) | (intro hgd; first | (rw [hgd]; rfl) | (refine ⟨?_, by repeat (first | exact trivial | refine ⟨hgd, ?_⟩)⟩; (repeat' apply And.intro) <;> first | trivial | omega | (intro h2; rw [hgd, h2]; rfl) | skip)) | skip)
    (repeat (first | apply AK.seq | apply AK.block | apply AK.blk | apply AK.skip | (refine AK.reg follows_any (rs := []) (by rfl) ?_ ?_; first | exact trivial | exact ⟨trivial, trivial⟩ | exact ⟨trivial, trivial, trivial⟩ | exact ⟨trivial, trivial, trivial, trivial⟩ | fail) | fail))
    refine AK.ret ⟨_, rfl, ?_⟩
    rfl
  have hs : s.size ≤ 300 := by have : ¬ ((s.size : Nat) : Int) > 300 := by simpa using hb
                               omega
  have hq := refQuote_a s (by omega)
  have hg := refSingle_a s (by omega)
  have hqz : (quoteB s).size ≤ 1000 := by
    have := quoteP_size s s.size
    have z : (ByteArray.mk #[34]).size = 1 := rfl
    rw [quoteB, ByteArray.size_append]; omega
  have hgz : (singB s).size ≤ 1000 := by
    have := singP_size s s.size
    have z : (ByteArray.mk #[39]).size = 1 := rfl
    rw [singB, ByteArray.size_append]; omega
  have hW1 := valWord_a (quoteB s) (by omega)
  have hW2 := valWord_a (singB s) (by omega)
  rw [word_quote] at hW1
  rw [word_sing] at hW2
  (repeat (first | apply AK.seq | apply AK.block | apply AK.blk | apply AK.skip | (refine AK.reg follows_any (rs := []) (by rfl) ?_ ?_; first | exact trivial | exact ⟨trivial, trivial⟩ | exact ⟨trivial, trivial, trivial⟩ | exact ⟨trivial, trivial, trivial, trivial⟩ | fail) | fail))
  refine AK.reg follows_any (rs := [.v (.str (quoteB s)), .v (.tup [.agg [.int .i64 ((V.str s)).kind, .bool ((V.str s)).b, .int .i64 ((V.str s)).n, .str ((V.str s)).s, .lst .any 6 (rowsV ((V.str s)).l), .lst .any 7 (rowsM ((V.str s)).m)], .int .i64 0])]) (by rfl) ?_ ?_
  · ((repeat' apply And.intro) <;> first | trivial | omega | (simp only [List.length_nil, List.length_cons]; omega) | (intro hgd; first | (rw [hgd]; rfl) | (refine ⟨?_, by repeat (first | exact trivial | refine ⟨hgd, ?_⟩)⟩; (repeat' apply And.intro) <;> first | trivial | omega | (intro h2; rw [hgd, h2]; rfl) | skip)) | skip)
  (repeat (first | apply AK.seq | apply AK.block | apply AK.blk | apply AK.skip | (refine AK.reg follows_any (rs := []) (by rfl) ?_ ?_; first | exact trivial | exact ⟨trivial, trivial⟩ | exact ⟨trivial, trivial, trivial⟩ | exact ⟨trivial, trivial, trivial, trivial⟩ | fail) | fail))
  refine AK.reg follows_any (rs := [.v (.str (singB s)), .v (.tup [.agg [.int .i64 ((V.str s)).kind, .bool ((V.str s)).b, .int .i64 ((V.str s)).n, .str ((V.str s)).s, .lst .any 6 (rowsV ((V.str s)).l), .lst .any 7 (rowsM ((V.str s)).m)], .int .i64 0])]) (by rfl) ?_ ?_
  · ((repeat' apply And.intro) <;> first | trivial | omega | (simp only [List.length_nil, List.length_cons]; omega) | (intro hgd; first | (rw [hgd]; rfl) | (refine ⟨?_, by repeat (first | exact trivial | refine ⟨hgd, ?_⟩)⟩; (repeat' apply And.intro) <;> first | trivial | omega | (intro h2; rw [hgd, h2]; rfl) | skip)) | skip)
  (repeat (first | apply AK.seq | apply AK.block | apply AK.blk | apply AK.skip | (refine AK.reg follows_any (rs := []) (by rfl) ?_ ?_; first | exact trivial | exact ⟨trivial, trivial⟩ | exact ⟨trivial, trivial, trivial⟩ | exact ⟨trivial, trivial, trivial, trivial⟩ | fail) | fail))
  refine AK.reg follows_any (rs := []) (by rfl) ?_ ?_
  · ((repeat' apply And.intro) <;> first | trivial | omega | (simp only [List.length_nil, List.length_cons]; omega) | (intro hgd; first | (rw [hgd]; rfl) | (refine ⟨?_, by repeat (first | exact trivial | refine ⟨hgd, ?_⟩)⟩; (repeat' apply And.intro) <;> first | trivial | omega | (intro h2; rw [hgd, h2]; rfl) | skip)) | skip)
  refine AK.cond (by rfl) (fun hb => ?_) (fun hb => ?_)
  · exfalso
    simp [V.str, V.kind, V.s] at hb
  (repeat (first | apply AK.seq | apply AK.block | apply AK.blk | apply AK.skip | (refine AK.reg follows_any (rs := []) (by rfl) ?_ ?_; first | exact trivial | exact ⟨trivial, trivial⟩ | exact ⟨trivial, trivial, trivial⟩ | exact ⟨trivial, trivial, trivial, trivial⟩ | fail) | fail))
  refine AK.reg follows_any (rs := []) (by rfl) ?_ ?_
  · ((repeat' apply And.intro) <;> first | trivial | omega | (simp only [List.length_nil, List.length_cons]; omega) | (intro hgd; first | (rw [hgd]; rfl) | (refine ⟨?_, by repeat (first | exact trivial | refine ⟨hgd, ?_⟩)⟩; (repeat' apply And.intro) <;> first | trivial | omega | (intro h2; rw [hgd, h2]; rfl) | skip)) | skip)
    · have hn : ¬ s = ByteArray.empty := by
        have := hgd
        simp only [gd] at this
        have h9 : ¬ s = ByteArray.mk #[] := by simpa using this
        exact h9
      have := mt (sz0 s).2 hn
      omega
    · have hn : ¬ s = ByteArray.empty := by
        have := (Bool.and_eq_true _ _ ▸ hgd : _ ∧ _).1
        simp only [gd] at this
        have h9 : ¬ s = ByteArray.mk #[] := by simpa using this
        exact h9
      have := mt (sz0 s).2 hn
      omega
  refine AK.cond (by rfl) (fun hb => ?_) (fun hb => ?_)
  · (repeat (first | apply AK.seq | apply AK.block | apply AK.blk | apply AK.skip | (refine AK.reg follows_any (rs := []) (by rfl) ?_ ?_; first | exact trivial | exact ⟨trivial, trivial⟩ | exact ⟨trivial, trivial, trivial⟩ | exact ⟨trivial, trivial, trivial, trivial⟩ | fail) | fail))
    refine AK.reg follows_any (rs := [.v (.bool true)]) (by rfl) ?_ ?_
    · ((repeat' apply And.intro) <;> first | trivial | omega | (simp only [List.length_nil, List.length_cons]; omega) | (intro hgd; first | (rw [hgd]; rfl) | (refine ⟨?_, by repeat (first | exact trivial | refine ⟨hgd, ?_⟩)⟩; (repeat' apply And.intro) <;> first | trivial | omega | (intro h2; rw [hgd, h2]; rfl) | skip)) | skip)
    (repeat (first | apply AK.seq | apply AK.block | apply AK.blk | apply AK.skip | (refine AK.reg follows_any (rs := []) (by rfl) ?_ ?_; first | exact trivial | exact ⟨trivial, trivial⟩ | exact ⟨trivial, trivial, trivial⟩ | exact ⟨trivial, trivial, trivial, trivial⟩ | fail) | fail))
    refine AK.ret ⟨_, rfl, ?_⟩
    rfl
  · have hW3 := valWord_a s (by omega)
    have hR := refScal_a s (by omega)
    have hws : wordP s = scalP s := by
      have key : hasB s ⟨#[34]⟩ = false ∧ hasB s ⟨#[39]⟩ = false := by
        by_cases h0 : s = ByteArray.empty
        · subst h0
          exact ⟨by decide +kernel, by decide +kernel⟩
        · have h1 : 1 ≤ s.size := by have := mt (sz0 s).2 h0; omega
          rw [show s.data.getD (0 : Int).toNat 0 = s[0] from byte_at h1, decide_eq_false (show ¬ s = ByteArray.mk #[] from h0)] at hb
          simp only [Bool.not_false, Bool.true_and, Bool.or_eq_false_iff, decide_eq_false_iff_not] at hb
          have e34 : ¬ s[0] = 34 := fun e => hb.1 (by rw [e]; rfl)
          have e39 : ¬ s[0] = 39 := fun e => hb.2 (by rw [e]; rfl)
          have hx : s.extract 0 1 = ⟨#[s[0]]⟩ := ext_one h1
          refine ⟨?_, ?_⟩
          · rw [hasB, show (ByteArray.mk #[34]).size = 1 from rfl, hx]
            simp [e34]
          · rw [hasB, show (ByteArray.mk #[39]).size = 1 from rfl, hx]
            simp [e39]
      rw [wordP, key.1, key.2, if_neg (by decide)]
    rw [hws] at hW3
    have hL := scal_leaf s (by omega)
    have hSm := same_self (scalP s).1 (by have := hL.2.2.1; omega)
    (repeat (first | apply AK.seq | apply AK.block | apply AK.blk | apply AK.skip | (refine AK.reg follows_any (rs := []) (by rfl) ?_ ?_; first | exact trivial | exact ⟨trivial, trivial⟩ | exact ⟨trivial, trivial, trivial⟩ | exact ⟨trivial, trivial, trivial, trivial⟩ | fail) | fail))
    refine AK.reg follows_any (rs := [.v (.tup [.agg [.int .i64 ((scalP s).1).kind, .bool ((scalP s).1).b, .int .i64 ((scalP s).1).n, .str ((scalP s).1).s, .lst .any 6 (rowsV ((scalP s).1).l), .lst .any 7 (rowsM ((scalP s).1).m)], .int .i64 (scalP s).2])]) (by rfl) ?_ ?_
    · ((repeat' apply And.intro) <;> first | trivial | omega | (simp only [List.length_nil, List.length_cons]; omega) | (intro hgd; first | (rw [hgd]; rfl) | (refine ⟨?_, by repeat (first | exact trivial | refine ⟨hgd, ?_⟩)⟩; (repeat' apply And.intro) <;> first | trivial | omega | (intro h2; rw [hgd, h2]; rfl) | skip)) | skip)
    (repeat (first | apply AK.seq | apply AK.block | apply AK.blk | apply AK.skip | (refine AK.reg follows_any (rs := []) (by rfl) ?_ ?_; first | exact trivial | exact ⟨trivial, trivial⟩ | exact ⟨trivial, trivial, trivial⟩ | exact ⟨trivial, trivial, trivial, trivial⟩ | fail) | fail))
    refine AK.reg follows_any (rs := [.v (.tup [.agg [.int .i64 ((scalP s).1).kind, .bool ((scalP s).1).b, .int .i64 ((scalP s).1).n, .str ((scalP s).1).s, .lst .any 6 (rowsV ((scalP s).1).l), .lst .any 7 (rowsM ((scalP s).1).m)], .int .i64 (scalP s).2])]) (by rfl) ?_ ?_
    · ((repeat' apply And.intro) <;> first | trivial | omega | (simp only [List.length_nil, List.length_cons]; omega) | (intro hgd; first | (rw [hgd]; rfl) | (refine ⟨?_, by repeat (first | exact trivial | refine ⟨hgd, ?_⟩)⟩; (repeat' apply And.intro) <;> first | trivial | omega | (intro h2; rw [hgd, h2]; rfl) | skip)) | skip)
    (repeat (first | apply AK.seq | apply AK.block | apply AK.blk | apply AK.skip | (refine AK.reg follows_any (rs := []) (by rfl) ?_ ?_; first | exact trivial | exact ⟨trivial, trivial⟩ | exact ⟨trivial, trivial, trivial⟩ | exact ⟨trivial, trivial, trivial, trivial⟩ | fail) | fail))
    refine AK.reg follows_any (rs := [.v (.bool true), .v (.bool true)]) (by rfl) ?_ ?_
    · ((repeat' apply And.intro) <;> first | trivial | omega | (simp only [List.length_nil, List.length_cons]; omega) | (intro hgd; first | (rw [hgd]; rfl) | (refine ⟨?_, by repeat (first | exact trivial | refine ⟨hgd, ?_⟩)⟩; (repeat' apply And.intro) <;> first | trivial | omega | (intro h2; rw [hgd, h2]; rfl) | skip)) | skip)
    (repeat (first | apply AK.seq | apply AK.block | apply AK.blk | apply AK.skip | (refine AK.reg follows_any (rs := []) (by rfl) ?_ ?_; first | exact trivial | exact ⟨trivial, trivial⟩ | exact ⟨trivial, trivial, trivial⟩ | exact ⟨trivial, trivial, trivial, trivial⟩ | fail) | fail))
    refine AK.ret ⟨_, rfl, ?_⟩
    simp
    rfl
end Go.Proofs.YtfnpjakekeojoaaGreatDoor
