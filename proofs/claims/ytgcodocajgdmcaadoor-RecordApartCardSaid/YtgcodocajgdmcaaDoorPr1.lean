/-
  The program's comparisons of texts, walked; the search in a sorted map.
-/
import Derived.Test.YtgcodocajgdmcaaDoorDriftD
import Derived.Test.YtgcodocajgdmcaaDoorGav
import Derived.Test.YtgcodocajgdmcaaDoorFol
import Derived.Lib.Bytealg
namespace Go.Proofs.YtgcodocajgdmcaaDoor
set_option linter.unusedSimpArgs false
set_option linter.unusedVariables false
open Go.RowKit

def cmpS (a b : ByteArray) : Int := Lib.compareBytes a.data.toList b.data.toList
theorem cmpB_lt : ∀ {a b : List UInt8}, Lib.compareBytes a b < 0 ↔ Op.bytesLess a b = true
  | [], [] => by simp [Lib.compareBytes, Op.bytesLess]
  | [], _ :: _ => by simp [Lib.compareBytes, Op.bytesLess]
  | _ :: _, [] => by simp [Lib.compareBytes, Op.bytesLess]
  | a :: l, b :: m => by
    rw [Lib.compareBytes]
    simp only [Op.bytesLess, Bool.or_eq_true, decide_eq_true_eq, Bool.and_eq_true, beq_iff_eq]
    split
    · rename_i h; simp [h]
    · rename_i h
      split
      · rename_i h2
        have : a ≠ b := by rintro rfl; exact absurd h2 (UInt8.lt_irrefl _)
        simp [h, this]
      · rename_i h2
        have : a = b := UInt8.le_antisymm (UInt8.not_lt.1 h2) (UInt8.not_lt.1 h)
        subst this
        simp [cmpB_lt]
theorem cmpB_eq : ∀ {a b : List UInt8}, Lib.compareBytes a b = 0 ↔ a = b
  | [], [] => by simp [Lib.compareBytes]
  | [], _ :: _ => by simp [Lib.compareBytes]
  | _ :: _, [] => by simp [Lib.compareBytes]
  | a :: l, b :: m => by
    rw [Lib.compareBytes]
    split
    · rename_i h
      have : a ≠ b := by rintro rfl; exact absurd h (UInt8.lt_irrefl _)
      simp [this]
    · rename_i h
      split
      · rename_i h2
        have : a ≠ b := by rintro rfl; exact absurd h2 (UInt8.lt_irrefl _)
        simp [this]
      · rename_i h2
        have : a = b := UInt8.le_antisymm (UInt8.not_lt.1 h2) (UInt8.not_lt.1 h)
        subst this
        simp [cmpB_eq]
theorem cmpS_lt {a b : ByteArray} : cmpS a b < 0 ↔ klt a b := by
  rw [cmpS, cmpB_lt, klt, ByteArray.toList_eq, ByteArray.toList_eq]
theorem cmpS_eq {a b : ByteArray} : cmpS a b = 0 ↔ a = b := by
  rw [cmpS, cmpB_eq]
  constructor
  · intro h
    rcases a with ⟨⟨a⟩⟩
    rcases b with ⟨⟨b⟩⟩
    simp at h
    rw [h]
  · rintro rfl; rfl
theorem cmpB_bound : ∀ {a b : List UInt8}, -1 ≤ Lib.compareBytes a b ∧ Lib.compareBytes a b ≤ 1
  | [], [] => by simp [Lib.compareBytes]
  | [], _ :: _ => by simp [Lib.compareBytes]
  | _ :: _, [] => by simp [Lib.compareBytes]
  | a :: l, b :: m => by
    rw [Lib.compareBytes]
    split
    · simp
    · split
      · simp
      · exact cmpB_bound

set_option maxHeartbeats 1000000 in
set_option maxRecDepth 100000 in
theorem cmpString_any (a b : ByteArray) (w : World) : Calls Tryd.prog 81 #[.string a, .string b] w fun e w' => e = .returned (.int .i64 (cmpS a b)) ∧ w' = w := by
  go_enter Tryd.func81, Tryd.ntmps81
  go_wp2
  rw [run_callFunc_extern Tryd.func111 (by kernel_rfl) (by kernel_rfl) (by kernel_rfl) (e := Extern.BytealgCompare.compare) (by kernel_rfl), Lib.run_compareString]
  simp only [Result.andThen]
  rw [Oper.upon_value]
  go_wp2
  go_ret
  exact ⟨rfl, rfl⟩
theorem cmpString_a (a b : ByteArray) : AC Tryd.prog 81 [.str a, .str b] (.int .i64 (cmpS a b)) := by
  refine ⟨by kernel_rfl, fun σ w vs hh hr hg => ?_⟩
  obtain ⟨hl, hr⟩ := hr
  obtain ⟨u, v, rfl⟩ : ∃ u v, vs = [u, v] := by
    match vs, hl with
    | [u, v], _ => exact ⟨u, v, rfl⟩
  have h1 : Rel1 σ u (.str a) := hr 0 _ _ rfl rfl
  have h2 : Rel1 σ v (.str b) := hr 1 _ _ rfl rfl
  cases h1
  cases h2
  refine (cmpString_any a b w).mono ?_
  rintro e w' ⟨rfl, rfl⟩
  exact ⟨σ, _, rfl, Ext.refl _ _, hh, Below.refl _ _, Rel1.int _ _⟩
theorem strCompare_a (a b : ByteArray) : AC Tryd.prog 58 [.str a, .str b] (.int .i64 (cmpS a b)) := by
  refine AC.enter Tryd.func58 a_strings_Compare_ok a_strings_Compare_cb (by rfl) fun E hE => ?_
  show AK _ _ _ [.c b_strings_Compare] _ _
  rw [b_strings_Compare]
  (repeat (first | apply AK.seq | apply AK.block | apply AK.blk | apply AK.skip | (refine AK.reg follows_any (rs := []) (by rfl) ?_ ?_; first | exact trivial | exact ⟨trivial, trivial⟩ | exact ⟨trivial, trivial, trivial⟩ | exact ⟨trivial, trivial, trivial, trivial⟩ | fail) | fail))
  refine AK.reg follows_any (rs := [.v (.int .i64 (cmpS a b))]) (by rfl) ?_ ?_
  · ((repeat' apply And.intro) <;> first | trivial | omega | (simp only [List.length_nil, List.length_cons]; omega) | (intro hgd; first | (rw [hgd]; rfl) | (refine ⟨?_, by repeat (first | exact trivial | refine ⟨hgd, ?_⟩)⟩; (repeat' apply And.intro) <;> first | trivial | omega | (intro h2; rw [hgd, h2]; rfl) | skip)) | skip)
    · exact cmpString_a a b
  (repeat (first | apply AK.seq | apply AK.block | apply AK.blk | apply AK.skip | (refine AK.reg follows_any (rs := []) (by rfl) ?_ ?_; first | exact trivial | exact ⟨trivial, trivial⟩ | exact ⟨trivial, trivial, trivial⟩ | exact ⟨trivial, trivial, trivial, trivial⟩ | fail) | fail))
  refine AK.ret ⟨_, rfl, ?_⟩
  rfl
theorem byKey_a (y : ByteArray) (x : V) (key : ByteArray) : AC Tryd.prog 34 [.agg (.str y :: [.int .i64 (x).kind, .bool (x).b, .int .i64 (x).n, .str (x).s, .lst .any 6 (rowsV (x).l), .lst .any 7 (rowsM (x).m)]), .str key] (.int .i64 (cmpS y key)) := by
  refine AC.enter Tryd.func34 a_tree_byKey_ok a_tree_byKey_cb (by rfl) fun E hE => ?_
  show AK _ _ _ [.c b_tree_byKey] _ _
  rw [b_tree_byKey]
  (repeat (first | apply AK.seq | apply AK.block | apply AK.blk | apply AK.skip | (refine AK.reg follows_any (rs := []) (by rfl) ?_ ?_; first | exact trivial | exact ⟨trivial, trivial⟩ | exact ⟨trivial, trivial, trivial⟩ | exact ⟨trivial, trivial, trivial, trivial⟩ | fail) | fail))
  refine AK.reg follows_any (rs := [.v (.int .i64 (cmpS y key))]) (by rfl) ?_ ?_
  · ((repeat' apply And.intro) <;> first | trivial | omega | (simp only [List.length_nil, List.length_cons]; omega) | (intro hgd; first | (rw [hgd]; rfl) | (refine ⟨?_, by repeat (first | exact trivial | refine ⟨hgd, ?_⟩)⟩; (repeat' apply And.intro) <;> first | trivial | omega | (intro h2; rw [hgd, h2]; rfl) | skip)) | skip)
    · exact strCompare_a y key
  (repeat (first | apply AK.seq | apply AK.block | apply AK.blk | apply AK.skip | (refine AK.reg follows_any (rs := []) (by rfl) ?_ ?_; first | exact trivial | exact ⟨trivial, trivial⟩ | exact ⟨trivial, trivial, trivial⟩ | exact ⟨trivial, trivial, trivial, trivial⟩ | fail) | fail))
  refine AK.ret ⟨_, rfl, ?_⟩
  rfl
end Go.Proofs.YtgcodocajgdmcaaDoor
