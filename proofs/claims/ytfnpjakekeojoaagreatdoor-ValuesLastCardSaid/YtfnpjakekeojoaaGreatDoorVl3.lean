/-
  The value of a word, walked: the program's.
-/
import Derived.Test.YtfnpjakekeojoaaGreatDoorVl1
import Derived.Lib.ParseIntBTie
import Derived.Test.YtfnpjakekeojoaaGreatDoorMap
import Derived.BigQuiet
namespace Go.Proofs.YtfnpjakekeojoaaGreatDoor
set_option linter.unusedSimpArgs false
set_option linter.unusedVariables false
open Go.RowKit

def V.str (s : ByteArray) : V := .mk 3 false 0 s [] []
def V.int (n : Int) : V := .mk 2 false n ⟨#[]⟩ [] []
def V.bool (b : Bool) : V := .mk 1 b 0 ⟨#[]⟩ [] []
def wNull : ByteArray := ⟨#[110, 117, 108, 108]⟩
def wTrue : ByteArray := ⟨#[116, 114, 117, 101]⟩
def wFalse : ByteArray := ⟨#[102, 97, 108, 115, 101]⟩
/-- the value of a word; what is wrong -/
def scalP (s : ByteArray) : V × Int :=
  if s = ⟨#[]⟩ ∨ s = ⟨#[126]⟩ ∨ s = wNull then (V.null, 0)
  else if s = wTrue ∨ s = wFalse then (V.bool (decide (s = wTrue)), 0)
  else if numB s = false then (V.str s, 0)
  else match Lib.atoiAll s.data.toList with
    | .ok v => (V.int v, 0)
    | _ => (V.null, 9)
theorem treeStr_a (s : ByteArray) : AC Tryz.prog 42 [.str s] (.agg [.int .i64 ((V.str s)).kind, .bool ((V.str s)).b, .int .i64 ((V.str s)).n, .str ((V.str s)).s, .lst .any 6 (rowsV ((V.str s)).l), .lst .any 7 (rowsM ((V.str s)).m)]) := by
  refine AC.enter Tryz.func42 a_tree_Str_ok a_tree_Str_cb (by rfl) fun E hE => ?_
  show AK _ _ _ [.c b_tree_Str] _ _
  rw [b_tree_Str]
  (repeat (first | apply AK.seq | apply AK.block | apply AK.blk | apply AK.skip | (refine AK.reg follows_any (rs := []) (by rfl) ?_ ?_; first | exact trivial | exact ⟨trivial, trivial⟩ | exact ⟨trivial, trivial, trivial⟩ | exact ⟨trivial, trivial, trivial, trivial⟩ | fail) | fail))
  refine AK.ret ⟨_, rfl, ?_⟩
  rfl
theorem treeInt_a (n : Int) : AC Tryz.prog 26 [.int .i64 n] (.agg [.int .i64 ((V.int n)).kind, .bool ((V.int n)).b, .int .i64 ((V.int n)).n, .str ((V.int n)).s, .lst .any 6 (rowsV ((V.int n)).l), .lst .any 7 (rowsM ((V.int n)).m)]) := by
  refine AC.enter Tryz.func26 a_tree_Int_ok a_tree_Int_cb (by rfl) fun E hE => ?_
  show AK _ _ _ [.c b_tree_Int] _ _
  rw [b_tree_Int]
  (repeat (first | apply AK.seq | apply AK.block | apply AK.blk | apply AK.skip | (refine AK.reg follows_any (rs := []) (by rfl) ?_ ?_; first | exact trivial | exact ⟨trivial, trivial⟩ | exact ⟨trivial, trivial, trivial⟩ | exact ⟨trivial, trivial, trivial, trivial⟩ | fail) | fail))
  refine AK.ret ⟨_, rfl, ?_⟩
  rfl
theorem treeBool_a (b : Bool) : AC Tryz.prog 64 [.bool b] (.agg [.int .i64 ((V.bool b)).kind, .bool ((V.bool b)).b, .int .i64 ((V.bool b)).n, .str ((V.bool b)).s, .lst .any 6 (rowsV ((V.bool b)).l), .lst .any 7 (rowsM ((V.bool b)).m)]) := by
  refine AC.enter Tryz.func64 a_tree_Bool_ok a_tree_Bool_cb (by rfl) fun E hE => ?_
  show AK _ _ _ [.c b_tree_Bool] _ _
  rw [b_tree_Bool]
  (repeat (first | apply AK.seq | apply AK.block | apply AK.blk | apply AK.skip | (refine AK.reg follows_any (rs := []) (by rfl) ?_ ?_; first | exact trivial | exact ⟨trivial, trivial⟩ | exact ⟨trivial, trivial, trivial⟩ | exact ⟨trivial, trivial, trivial, trivial⟩ | fail) | fail))
  refine AK.ret ⟨_, rfl, ?_⟩
  rfl
theorem treeNull_a : AC Tryz.prog 63 [] (.agg [.int .i64 (V.null).kind, .bool (V.null).b, .int .i64 (V.null).n, .str (V.null).s, .lst .any 6 (rowsV (V.null).l), .lst .any 7 (rowsM (V.null).m)]) := by
  refine AC.enter Tryz.func63 a_tree_Null_ok a_tree_Null_cb (by rfl) fun E hE => ?_
  show AK _ _ _ [.c b_tree_Null] _ _
  rw [b_tree_Null]
  (repeat (first | apply AK.seq | apply AK.block | apply AK.blk | apply AK.skip | (refine AK.reg follows_any (rs := []) (by rfl) ?_ ?_; first | exact trivial | exact ⟨trivial, trivial⟩ | exact ⟨trivial, trivial, trivial⟩ | exact ⟨trivial, trivial, trivial, trivial⟩ | fail) | fail))
  refine AK.ret ⟨_, rfl, ?_⟩
  rfl
theorem parseInt_a (s : ByteArray) (v : Int) (hz : s.size ≤ 1000000) (h : Lib.atoiAll s.data.toList = .ok v) : AC Tryz.prog 66 [.str s, .int .i64 10, .int .i64 64] (.tup [.int .i64 v, .raw .nilIface]) := by
  refine ⟨by kernel_rfl, fun σ w vs hh hr hg => ?_⟩
  have hl : vs.length = 3 := hr.1
  obtain ⟨v1, v2, v3, rfl⟩ : ∃ a b c, vs = [a, b, c] := by
    rcases vs with _ | ⟨a, _ | ⟨b, _ | ⟨c, _ | ⟨d, l⟩⟩⟩⟩ <;> simp at hl
    exact ⟨a, b, c, rfl⟩
  have h1 : Rel1 σ v1 (.str s) := hr.2 0 v1 _ rfl rfl
  have h2 : Rel1 σ v2 (.int .i64 10) := hr.2 1 v2 _ rfl rfl
  have h3 : Rel1 σ v3 (.int .i64 64) := hr.2 2 v3 _ rfl rfl
  cases h1; cases h2; cases h3
  refine (Tryz.strconv_ParseInt_10_at64_ok s (by omega) v (by rw [Lib.parseIntB_64]; exact h) w).mono ?_
  rintro e w' ⟨rfl, hw⟩
  have hb : Below w.heap.size w w' := by
    rcases hw with rfl | ⟨t, rfl⟩
    · exact Below.refl _ _
    · exact Lib.bytesWorld_below _ _ _
  refine ⟨σ, _, rfl, Ext.refl _ _, fun b q v hv => (hb.cell (p := ⟨b, q, none⟩) (World.block_lt_of_cell? w _ (hh _ _ _ hv))).trans (hh _ _ _ hv), hb, ⟨[.int .i64 v, .nilIface], rfl, rfl, fun j v a hv ha => ?_⟩⟩
  rcases j with _ | _ | j <;> simp at hv ha
  · subst hv ha; exact .int _ _
  · subst hv ha; exact .raw _ rfl
theorem parseErr_any (s : ByteArray) (hz : s.size ≤ 1000000) (h : ∀ v, Lib.atoiAll s.data.toList ≠ .ok v) : ∃ n : Int, ∀ w : World, GW w → Calls Tryz.prog 66 #[.string s, .int .i64 10, .int .i64 64] w fun e w' => ∃ t p, e = .returned (.tuple #[.int .i64 n, .iface t (.pointer (some p))]) ∧ Below w.heap.size w w' := by
  cases hA : Lib.atoiAll s.data.toList with
  | ok v => exact absurd hA (h v)
  | range =>
    refine ⟨Lib.intSat 64 s.data.toList, fun w hg => ?_⟩
    obtain ⟨ev, h1, h2⟩ := hg.ifc_cell (g := gi_ErrRange) (by simp [globI])
    refine (Tryz.strconv_ParseInt_10_at64_range s (by omega) (by rw [Lib.parseIntB_64]; exact hA) ev w h1 h2).mono ?_
    rintro e w' ⟨N, rfl, _, _, hb⟩
    exact ⟨_, _, rfl, hb⟩
  | _ =>
    refine ⟨0, fun w hg => ?_⟩
    obtain ⟨ev, h1, h2⟩ := hg.ifc_cell (g := gi_ErrSyntax) (by simp [globI])
    refine (Tryz.strconv_ParseInt_10_at64_syntax s (by omega) (by rw [Lib.parseIntB_64]; exact hA) ev w h1 h2).mono ?_
    rintro e w' ⟨N, rfl, _, _, hb⟩
    exact ⟨_, _, rfl, hb⟩
theorem nilErr (neg : Bool) : NilRun Tryz.prog neg 78 .nilIface .nilIface true := by
  intro w x y hk
  have hg : (eqGuard (eqOp neg) 78 x y .nilIface .nilIface).run Tryz.prog w = .ok () w := by
    cases x <;> cases y <;> first | (cases hk; done) | (cases neg <;> simp [go_sem, eqGuard, eqOp])
  cases neg
  · exact ⟨hg, by simp [go_sem, eqOp]⟩
  · exact ⟨hg, by simp [go_sem, eqOp]⟩
theorem scalOk_a (s : ByteArray) (hz : s.size ≤ 1000000) (hok : (¬ (s = ⟨#[]⟩ ∨ s = ⟨#[126]⟩ ∨ s = wNull) → ¬ (s = wTrue ∨ s = wFalse) → numB s = true → ∃ v, Lib.atoiAll s.data.toList = .ok v)) : AC Tryz.prog 43 [.str s] (.tup [.agg [.int .i64 ((scalP s).1).kind, .bool ((scalP s).1).b, .int .i64 ((scalP s).1).n, .str ((scalP s).1).s, .lst .any 6 (rowsV ((scalP s).1).l), .lst .any 7 (rowsM ((scalP s).1).m)], .int .i64 (scalP s).2]) := by
  have hn := number_a s (by omega)
  have hs := treeStr_a s
  have h0 := treeNull_a
  refine AC.enter Tryz.func43 a_scalar_Parse_ok a_scalar_Parse_cb (by rfl) fun E hE => ?_
  show AK _ _ _ [.c b_scalar_Parse] _ _
  rw [b_scalar_Parse]
  have fin0 : s = ⟨#[]⟩ ∨ s = ⟨#[126]⟩ ∨ s = wNull → scalP s = (V.null, 0) := fun h => by rw [scalP, if_pos h]
  (repeat (first | apply AK.seq | apply AK.block | apply AK.blk | apply AK.skip | (refine AK.reg follows_any (rs := []) (by rfl) ?_ ?_; first | exact trivial | exact ⟨trivial, trivial⟩ | exact ⟨trivial, trivial, trivial⟩ | exact ⟨trivial, trivial, trivial, trivial⟩ | fail) | fail))
  refine AK.cond (by rfl) (fun hb => ?_) (fun hb => ?_)
  · skip
    have h1 := fin0 (.inl (of_decide_eq_true hb))
    have hb0 := hb
    (repeat (first | apply AK.seq | apply AK.block | apply AK.blk | apply AK.skip | (refine AK.reg follows_any (rs := []) (by rfl) ?_ ?_; first | exact trivial | exact ⟨trivial, trivial⟩ | exact ⟨trivial, trivial, trivial⟩ | exact ⟨trivial, trivial, trivial, trivial⟩ | fail) | fail))
    refine AK.cond (by rfl) (fun hb => ?_) (fun hb => ?_)
    · (repeat (first | apply AK.seq | apply AK.block | apply AK.blk | apply AK.skip | (refine AK.reg follows_any (rs := []) (by rfl) ?_ ?_; first | exact trivial | exact ⟨trivial, trivial⟩ | exact ⟨trivial, trivial, trivial⟩ | exact ⟨trivial, trivial, trivial, trivial⟩ | fail) | fail))
      refine AK.reg follows_any (rs := [.v (.agg [.int .i64 (V.null).kind, .bool (V.null).b, .int .i64 (V.null).n, .str (V.null).s, .lst .any 6 (rowsV (V.null).l), .lst .any 7 (rowsM (V.null).m)])]) (by rfl) ?_ ?_
      · ((repeat' apply And.intro) <;> first | trivial | omega | (simp only [List.length_nil, List.length_cons]; omega) | (intro hgd; first | (rw [hgd]; rfl) | (refine ⟨?_, by repeat (first | exact trivial | refine ⟨hgd, ?_⟩)⟩; (repeat' apply And.intro) <;> first | trivial | omega | (intro h2; rw [hgd, h2]; rfl) | skip)) | skip)
      (repeat (first | apply AK.seq | apply AK.block | apply AK.blk | apply AK.skip | (refine AK.reg follows_any (rs := []) (by rfl) ?_ ?_; first | exact trivial | exact ⟨trivial, trivial⟩ | exact ⟨trivial, trivial, trivial⟩ | exact ⟨trivial, trivial, trivial, trivial⟩ | fail) | fail))
      refine AK.ret ⟨_, rfl, ?_⟩
      rw [h1]
      rfl
    · rw [hb0] at hb
      cases hb
  have n1 := of_decide_eq_false hb
  (repeat (first | apply AK.seq | apply AK.block | apply AK.blk | apply AK.skip | (refine AK.reg follows_any (rs := []) (by rfl) ?_ ?_; first | exact trivial | exact ⟨trivial, trivial⟩ | exact ⟨trivial, trivial, trivial⟩ | exact ⟨trivial, trivial, trivial, trivial⟩ | fail) | fail))
  refine AK.cond (by rfl) (fun hb => ?_) (fun hb => ?_)
  · skip
    have h1 := fin0 (.inr (.inl (of_decide_eq_true hb)))
    have hb0 := hb
    (repeat (first | apply AK.seq | apply AK.block | apply AK.blk | apply AK.skip | (refine AK.reg follows_any (rs := []) (by rfl) ?_ ?_; first | exact trivial | exact ⟨trivial, trivial⟩ | exact ⟨trivial, trivial, trivial⟩ | exact ⟨trivial, trivial, trivial, trivial⟩ | fail) | fail))
    refine AK.cond (by rfl) (fun hb => ?_) (fun hb => ?_)
    · (repeat (first | apply AK.seq | apply AK.block | apply AK.blk | apply AK.skip | (refine AK.reg follows_any (rs := []) (by rfl) ?_ ?_; first | exact trivial | exact ⟨trivial, trivial⟩ | exact ⟨trivial, trivial, trivial⟩ | exact ⟨trivial, trivial, trivial, trivial⟩ | fail) | fail))
      refine AK.reg follows_any (rs := [.v (.agg [.int .i64 (V.null).kind, .bool (V.null).b, .int .i64 (V.null).n, .str (V.null).s, .lst .any 6 (rowsV (V.null).l), .lst .any 7 (rowsM (V.null).m)])]) (by rfl) ?_ ?_
      · ((repeat' apply And.intro) <;> first | trivial | omega | (simp only [List.length_nil, List.length_cons]; omega) | (intro hgd; first | (rw [hgd]; rfl) | (refine ⟨?_, by repeat (first | exact trivial | refine ⟨hgd, ?_⟩)⟩; (repeat' apply And.intro) <;> first | trivial | omega | (intro h2; rw [hgd, h2]; rfl) | skip)) | skip)
      (repeat (first | apply AK.seq | apply AK.block | apply AK.blk | apply AK.skip | (refine AK.reg follows_any (rs := []) (by rfl) ?_ ?_; first | exact trivial | exact ⟨trivial, trivial⟩ | exact ⟨trivial, trivial, trivial⟩ | exact ⟨trivial, trivial, trivial, trivial⟩ | fail) | fail))
      refine AK.ret ⟨_, rfl, ?_⟩
      rw [h1]
      rfl
    · rw [hb0] at hb
      cases hb
  have n2 := of_decide_eq_false hb
  (repeat (first | apply AK.seq | apply AK.block | apply AK.blk | apply AK.skip | (refine AK.reg follows_any (rs := []) (by rfl) ?_ ?_; first | exact trivial | exact ⟨trivial, trivial⟩ | exact ⟨trivial, trivial, trivial⟩ | exact ⟨trivial, trivial, trivial, trivial⟩ | fail) | fail))
  refine AK.cond (by rfl) (fun hb => ?_) (fun hb => ?_)
  · have hb3 : s = wNull := of_decide_eq_true hb
    have h1 := fin0 (.inr (.inr hb3))
    (repeat (first | apply AK.seq | apply AK.block | apply AK.blk | apply AK.skip | (refine AK.reg follows_any (rs := []) (by rfl) ?_ ?_; first | exact trivial | exact ⟨trivial, trivial⟩ | exact ⟨trivial, trivial, trivial⟩ | exact ⟨trivial, trivial, trivial, trivial⟩ | fail) | fail))
    refine AK.reg follows_any (rs := [.v (.agg [.int .i64 (V.null).kind, .bool (V.null).b, .int .i64 (V.null).n, .str (V.null).s, .lst .any 6 (rowsV (V.null).l), .lst .any 7 (rowsM (V.null).m)])]) (by rfl) ?_ ?_
    · ((repeat' apply And.intro) <;> first | trivial | omega | (simp only [List.length_nil, List.length_cons]; omega) | (intro hgd; first | (rw [hgd]; rfl) | (refine ⟨?_, by repeat (first | exact trivial | refine ⟨hgd, ?_⟩)⟩; (repeat' apply And.intro) <;> first | trivial | omega | (intro h2; rw [hgd, h2]; rfl) | skip)) | skip)
    (repeat (first | apply AK.seq | apply AK.block | apply AK.blk | apply AK.skip | (refine AK.reg follows_any (rs := []) (by rfl) ?_ ?_; first | exact trivial | exact ⟨trivial, trivial⟩ | exact ⟨trivial, trivial, trivial⟩ | exact ⟨trivial, trivial, trivial, trivial⟩ | fail) | fail))
    refine AK.ret ⟨_, rfl, ?_⟩
    rw [h1]
    rfl
  have n3 : ¬ s = wNull := of_decide_eq_false hb
  have nn : ¬ (s = ⟨#[]⟩ ∨ s = ⟨#[126]⟩ ∨ s = wNull) := fun h => h.elim n1 fun h => h.elim n2 n3
  have fin1 : s = wTrue ∨ s = wFalse → scalP s = (V.bool (decide (s = wTrue)), 0) := fun h => by rw [scalP, if_neg nn, if_pos h]
  (repeat (first | apply AK.seq | apply AK.block | apply AK.blk | apply AK.skip | (refine AK.reg follows_any (rs := []) (by rfl) ?_ ?_; first | exact trivial | exact ⟨trivial, trivial⟩ | exact ⟨trivial, trivial, trivial⟩ | exact ⟨trivial, trivial, trivial, trivial⟩ | fail) | fail))
  refine AK.cond (by rfl) (fun hb => ?_) (fun hb => ?_)
  · skip
    have h1 := fin1 (.inl (of_decide_eq_true hb))
    have hb0 := hb
    have hB := treeBool_a (decide (s = wTrue))
    (repeat (first | apply AK.seq | apply AK.block | apply AK.blk | apply AK.skip | (refine AK.reg follows_any (rs := []) (by rfl) ?_ ?_; first | exact trivial | exact ⟨trivial, trivial⟩ | exact ⟨trivial, trivial, trivial⟩ | exact ⟨trivial, trivial, trivial, trivial⟩ | fail) | fail))
    refine AK.cond (by rfl) (fun hb => ?_) (fun hb => ?_)
    · (repeat (first | apply AK.seq | apply AK.block | apply AK.blk | apply AK.skip | (refine AK.reg follows_any (rs := []) (by rfl) ?_ ?_; first | exact trivial | exact ⟨trivial, trivial⟩ | exact ⟨trivial, trivial, trivial⟩ | exact ⟨trivial, trivial, trivial, trivial⟩ | fail) | fail))
      refine AK.reg follows_any (rs := [.v (.agg [.int .i64 ((V.bool (decide (s = wTrue)))).kind, .bool ((V.bool (decide (s = wTrue)))).b, .int .i64 ((V.bool (decide (s = wTrue)))).n, .str ((V.bool (decide (s = wTrue)))).s, .lst .any 6 (rowsV ((V.bool (decide (s = wTrue)))).l), .lst .any 7 (rowsM ((V.bool (decide (s = wTrue)))).m)])]) (by rfl) ?_ ?_
      · ((repeat' apply And.intro) <;> first | trivial | omega | (simp only [List.length_nil, List.length_cons]; omega) | (intro hgd; first | (rw [hgd]; rfl) | (refine ⟨?_, by repeat (first | exact trivial | refine ⟨hgd, ?_⟩)⟩; (repeat' apply And.intro) <;> first | trivial | omega | (intro h2; rw [hgd, h2]; rfl) | skip)) | skip)
      (repeat (first | apply AK.seq | apply AK.block | apply AK.blk | apply AK.skip | (refine AK.reg follows_any (rs := []) (by rfl) ?_ ?_; first | exact trivial | exact ⟨trivial, trivial⟩ | exact ⟨trivial, trivial, trivial⟩ | exact ⟨trivial, trivial, trivial, trivial⟩ | fail) | fail))
      refine AK.ret ⟨_, rfl, ?_⟩
      rw [h1]
      rfl
    · rw [hb0] at hb
      cases hb
  have n4 : ¬ s = wTrue := of_decide_eq_false hb
  (repeat (first | apply AK.seq | apply AK.block | apply AK.blk | apply AK.skip | (refine AK.reg follows_any (rs := []) (by rfl) ?_ ?_; first | exact trivial | exact ⟨trivial, trivial⟩ | exact ⟨trivial, trivial, trivial⟩ | exact ⟨trivial, trivial, trivial, trivial⟩ | fail) | fail))
  refine AK.cond (by rfl) (fun hb => ?_) (fun hb => ?_)
  · have h1 := fin1 (.inr (of_decide_eq_true hb))
    have hB := treeBool_a (decide (s = wTrue))
    (repeat (first | apply AK.seq | apply AK.block | apply AK.blk | apply AK.skip | (refine AK.reg follows_any (rs := []) (by rfl) ?_ ?_; first | exact trivial | exact ⟨trivial, trivial⟩ | exact ⟨trivial, trivial, trivial⟩ | exact ⟨trivial, trivial, trivial, trivial⟩ | fail) | fail))
    refine AK.reg follows_any (rs := [.v (.agg [.int .i64 ((V.bool (decide (s = wTrue)))).kind, .bool ((V.bool (decide (s = wTrue)))).b, .int .i64 ((V.bool (decide (s = wTrue)))).n, .str ((V.bool (decide (s = wTrue)))).s, .lst .any 6 (rowsV ((V.bool (decide (s = wTrue)))).l), .lst .any 7 (rowsM ((V.bool (decide (s = wTrue)))).m)])]) (by rfl) ?_ ?_
    · ((repeat' apply And.intro) <;> first | trivial | omega | (simp only [List.length_nil, List.length_cons]; omega) | (intro hgd; first | (rw [hgd]; rfl) | (refine ⟨?_, by repeat (first | exact trivial | refine ⟨hgd, ?_⟩)⟩; (repeat' apply And.intro) <;> first | trivial | omega | (intro h2; rw [hgd, h2]; rfl) | skip)) | skip)
    (repeat (first | apply AK.seq | apply AK.block | apply AK.blk | apply AK.skip | (refine AK.reg follows_any (rs := []) (by rfl) ?_ ?_; first | exact trivial | exact ⟨trivial, trivial⟩ | exact ⟨trivial, trivial, trivial⟩ | exact ⟨trivial, trivial, trivial, trivial⟩ | fail) | fail))
    refine AK.ret ⟨_, rfl, ?_⟩
    rw [h1]
    rfl
  have n5 : ¬ s = wFalse := of_decide_eq_false hb
  have nb : ¬ (s = wTrue ∨ s = wFalse) := fun h => h.elim n4 n5
  (repeat (first | apply AK.seq | apply AK.block | apply AK.blk | apply AK.skip | (refine AK.reg follows_any (rs := []) (by rfl) ?_ ?_; first | exact trivial | exact ⟨trivial, trivial⟩ | exact ⟨trivial, trivial, trivial⟩ | exact ⟨trivial, trivial, trivial, trivial⟩ | fail) | fail))
  refine AK.reg follows_any (rs := [.v (.bool (numB s))]) (by rfl) ?_ ?_
  · ((repeat' apply And.intro) <;> first | trivial | omega | (simp only [List.length_nil, List.length_cons]; omega) | (intro hgd; first | (rw [hgd]; rfl) | (refine ⟨?_, by repeat (first | exact trivial | refine ⟨hgd, ?_⟩)⟩; (repeat' apply And.intro) <;> first | trivial | omega | (intro h2; rw [hgd, h2]; rfl) | skip)) | skip)
  refine AK.cond (by rfl) (fun hb => ?_) (fun hb => ?_)
  · have hN : numB s = false := by simpa using hb
    have h1 : scalP s = (V.str s, 0) := by rw [scalP, if_neg nn, if_neg nb, if_pos hN]
    (repeat (first | apply AK.seq | apply AK.block | apply AK.blk | apply AK.skip | (refine AK.reg follows_any (rs := []) (by rfl) ?_ ?_; first | exact trivial | exact ⟨trivial, trivial⟩ | exact ⟨trivial, trivial, trivial⟩ | exact ⟨trivial, trivial, trivial, trivial⟩ | fail) | fail))
    refine AK.reg follows_any (rs := [.v (.agg [.int .i64 ((V.str s)).kind, .bool ((V.str s)).b, .int .i64 ((V.str s)).n, .str ((V.str s)).s, .lst .any 6 (rowsV ((V.str s)).l), .lst .any 7 (rowsM ((V.str s)).m)])]) (by rfl) ?_ ?_
    · ((repeat' apply And.intro) <;> first | trivial | omega | (simp only [List.length_nil, List.length_cons]; omega) | (intro hgd; first | (rw [hgd]; rfl) | (refine ⟨?_, by repeat (first | exact trivial | refine ⟨hgd, ?_⟩)⟩; (repeat' apply And.intro) <;> first | trivial | omega | (intro h2; rw [hgd, h2]; rfl) | skip)) | skip)
    (repeat (first | apply AK.seq | apply AK.block | apply AK.blk | apply AK.skip | (refine AK.reg follows_any (rs := []) (by rfl) ?_ ?_; first | exact trivial | exact ⟨trivial, trivial⟩ | exact ⟨trivial, trivial, trivial⟩ | exact ⟨trivial, trivial, trivial, trivial⟩ | fail) | fail))
    refine AK.ret ⟨_, rfl, ?_⟩
    rw [h1]
    rfl
  · have hN : numB s = true := by simpa using hb
    obtain ⟨v, hv⟩ := hok nn nb hN
    have h1 : scalP s = (V.int v, 0) := by rw [scalP, if_neg nn, if_neg nb, if_neg (by rw [hN]; decide), hv]
    have hP := parseInt_a s v hz hv
    have hI := treeInt_a v
    (repeat (first | apply AK.seq | apply AK.block | apply AK.blk | apply AK.skip | (refine AK.reg follows_any (rs := []) (by rfl) ?_ ?_; first | exact trivial | exact ⟨trivial, trivial⟩ | exact ⟨trivial, trivial, trivial⟩ | exact ⟨trivial, trivial, trivial, trivial⟩ | fail) | fail))
    refine AK.reg follows_any (rs := [.v (.tup [.int .i64 v, .raw .nilIface])]) (by rfl) ?_ ?_
    · ((repeat' apply And.intro) <;> first | trivial | omega | (simp only [List.length_nil, List.length_cons]; omega) | (intro hgd; first | (rw [hgd]; rfl) | (refine ⟨?_, by repeat (first | exact trivial | refine ⟨hgd, ?_⟩)⟩; (repeat' apply And.intro) <;> first | trivial | omega | (intro h2; rw [hgd, h2]; rfl) | skip)) | skip)
    (repeat (first | apply AK.seq | apply AK.block | apply AK.blk | apply AK.skip | (refine AK.reg follows_any (rs := []) (by rfl) ?_ ?_; first | exact trivial | exact ⟨trivial, trivial⟩ | exact ⟨trivial, trivial, trivial⟩ | exact ⟨trivial, trivial, trivial, trivial⟩ | fail) | fail))
    refine AK.reg follows_any (rs := []) (by rfl) ?_ ?_
    · ((repeat' apply And.intro) <;> first | trivial | omega | (simp only [List.length_nil, List.length_cons]; omega) | (intro hgd; first | (rw [hgd]; rfl) | (refine ⟨?_, by repeat (first | exact trivial | refine ⟨hgd, ?_⟩)⟩; (repeat' apply And.intro) <;> first | trivial | omega | (intro h2; rw [hgd, h2]; rfl) | skip)) | skip)
      exact nilErr true
    refine AK.cond (by rfl) (fun hb => ?_) (fun hb => ?_)
    · cases hb
    (repeat (first | apply AK.seq | apply AK.block | apply AK.blk | apply AK.skip | (refine AK.reg follows_any (rs := []) (by rfl) ?_ ?_; first | exact trivial | exact ⟨trivial, trivial⟩ | exact ⟨trivial, trivial, trivial⟩ | exact ⟨trivial, trivial, trivial, trivial⟩ | fail) | fail))
    refine AK.reg follows_any (rs := [.v (.agg [.int .i64 ((V.int v)).kind, .bool ((V.int v)).b, .int .i64 ((V.int v)).n, .str ((V.int v)).s, .lst .any 6 (rowsV ((V.int v)).l), .lst .any 7 (rowsM ((V.int v)).m)])]) (by rfl) ?_ ?_
    · ((repeat' apply And.intro) <;> first | trivial | omega | (simp only [List.length_nil, List.length_cons]; omega) | (intro hgd; first | (rw [hgd]; rfl) | (refine ⟨?_, by repeat (first | exact trivial | refine ⟨hgd, ?_⟩)⟩; (repeat' apply And.intro) <;> first | trivial | omega | (intro h2; rw [hgd, h2]; rfl) | skip)) | skip)
    (repeat (first | apply AK.seq | apply AK.block | apply AK.blk | apply AK.skip | (refine AK.reg follows_any (rs := []) (by rfl) ?_ ?_; first | exact trivial | exact ⟨trivial, trivial⟩ | exact ⟨trivial, trivial, trivial⟩ | exact ⟨trivial, trivial, trivial, trivial⟩ | fail) | fail))
    refine AK.ret ⟨_, rfl, ?_⟩
    rw [h1]
    rfl
end Go.Proofs.YtfnpjakekeojoaaGreatDoor
/-
  The value of a word that is a number too great, walked; the value of a word, at any.
-/
namespace Go.Proofs.YtfnpjakekeojoaaGreatDoor
set_option linter.unusedSimpArgs false
set_option linter.unusedVariables false
open Go.RowKit

theorem AC.bool_at {f : FuncId} {s : ByteArray} {b : Bool} (h : AC Tryz.prog f [.str s] (.bool b)) {w : World} (hg : GW w) : Calls Tryz.prog f #[.string s] w fun e w' => e = .returned (.bool b) ∧ Below w.heap.size w w' := by
  refine (h.run (fun _ _ => none) w [.string s] (fun _ _ _ h => by cases h) ⟨rfl, fun j v a hv ha => ?_⟩ hg).mono ?_
  · rcases j with _ | j <;> simp at hv ha
    subst hv ha
    exact .str s
  · rintro e w' ⟨σ', v, rfl, _, _, hb, hr⟩
    have hr : Rel1 σ' v (.bool b) := hr
    cases hr
    exact ⟨rfl, hb⟩
theorem ne_list {s t : ByteArray} (h : ¬ s = t) : (s.toList == t.data.toList) = false := by
  rw [beq_eq_false_iff_ne]
  intro e
  refine h (ByteArray.ext (Array.ext' ?_))
  rw [← Lib.toList_data s, e]
set_option maxHeartbeats 2000000 in
theorem scalErr_any (s : ByteArray) (hz : s.size ≤ 1000000) (nn : ¬ (s = ⟨#[]⟩ ∨ s = ⟨#[126]⟩ ∨ s = wNull)) (nb : ¬ (s = wTrue ∨ s = wFalse)) (hN : numB s = true) (n : Int) (hA : ∀ w : World, GW w → Calls Tryz.prog 66 #[.string s, .int .i64 10, .int .i64 64] w fun e w' => ∃ t p, e = .returned (.tuple #[.int .i64 n, .iface t (.pointer (some p))]) ∧ Below w.heap.size w w') (w : World) (hg : GW w) :
    Calls Tryz.prog 43 #[.string s] w fun e w' => e = .returned (.tuple #[.agg #[.int .i64 0, .bool false, .int .i64 0, .string ⟨#[]⟩, .slice none 0 0, .slice none 0 0], .int .i64 9]) ∧ Below w.heap.size w w' := by
  have h1 : (s.toList == []) = false := ne_list (t := ⟨#[]⟩) fun h => nn (.inl h)
  have h2 : (s.toList == [126]) = false := ne_list (t := ⟨#[126]⟩) fun h => nn (.inr (.inl h))
  have h3 : (s.toList == [110, 117, 108, 108]) = false := ne_list (t := wNull) fun h => nn (.inr (.inr h))
  have h4 : (s.toList == [116, 114, 117, 101]) = false := ne_list (t := wTrue) fun h => nb (.inl h)
  have h5 : (s.toList == [102, 97, 108, 115, 101]) = false := ne_list (t := wFalse) fun h => nb (.inr h)
  have hn := fun (w : World) (hg : GW w) => AC.bool_at (number_a s (by omega)) hg
  rw [hN] at hn
  clear nn nb hN
  go_enter Tryz.func43, Tryz.ntmps43
  go_wp2_with fail
  have hb0 : Below w.heap.size w (w.alloc (.cells #[.int .i64 0, .bool false, .int .i64 0, .string ⟨#[]⟩, .slice none 0 0, .slice none 0 0] 25)) := (Below.refl _ _).alloc (Nat.le_refl _) _
  have hk0 : Blk (w.alloc (.cells #[.int .i64 0, .bool false, .int .i64 0, .string ⟨#[]⟩, .slice none 0 0, .slice none 0 0] 25)) w.heap.size 25 #[.int .i64 0, .bool false, .int .i64 0, .string ⟨#[]⟩, .slice none 0 0, .slice none 0 0] := Blk.new _ _ _ rfl
  have hg0 := hg.below hb0
  refine (hn _ hg0).mono ?_
  rintro e w1 ⟨rfl, hb1⟩
  have hk1 := hk0.below hb1 (by simp)
  have hg1 := hg0.below hb1
  have hB1 : Below w.heap.size w w1 := hb0.trans (hb1.mono (by simp))
  clear hn hb0 hk0 hg0 hb1
  go_wp2_with fail
  refine (hA _ hg1).mono ?_
  rintro e w2 ⟨t, p, rfl, hb2⟩
  have hk2 := hk1.below hb2 hk1.lt
  have hB2 : Below w.heap.size w w2 := hB1.trans (hb2.mono hB1.size)
  have HK := Lib.hid hk2
  have HB := Lib.hid hB2
  have hz2 : w.heap.size < w2.heap.size := hk2.lt
  clear hA hb2 hk1 hg1 hB1 hk2 hB2
  have q1 : ∀ w : World, (binOp .neq 78 (.iface t (.pointer (some p))) .nilIface).run Tryz.prog w = .ok (.bool true) w := fun w => by simp [go_sem]
  go_wp2_with ((with_reducible refine wpList_store_row 2 30 25 (w.heap.size) 25 #[.int .i64 0, .bool false, .int .i64 0, .string ⟨#[]⟩, .slice none 0 0, .slice none 0 0] #[.int .i64 0, .bool false, .int .i64 0, .string ⟨#[]⟩, .slice none 0 0, .slice none 0 0] ?_ ?_ ?_ ?_ ?_ ?_ ?_); rfl; rfl; exact HK.out; rfl; exact (show ∀ u ∈ [Value.int .i64 0, .bool false, .int .i64 0, .string ⟨#[]⟩, .slice none 0 0, .slice none 0 0], u.oneCell' = true by simp [Value.oneCell']); kernel_rfl)
  refine bodyPost_ret (results_cell_tmp_row rfl _ _ _ _ _ _ rfl (HK.out.set _) Tryz.underlying25 rfl (by kernel_rfl)) rfl ⟨rfl, ?_⟩
  exact below_setRow HB.out (Nat.le_refl _) _
theorem zeroV_rel (σ : Sg) (e : Int) : RelR σ (.tuple #[.agg #[.int .i64 0, .bool false, .int .i64 0, .string ⟨#[]⟩, .slice none 0 0, .slice none 0 0], .int .i64 e]) (.tup [.agg [.int .i64 (V.null).kind, .bool (V.null).b, .int .i64 (V.null).n, .str (V.null).s, .lst .any 6 (rowsV (V.null).l), .lst .any 7 (rowsM (V.null).m)], .int .i64 e]) := by
  refine ⟨[.agg #[.int .i64 0, .bool false, .int .i64 0, .string ⟨#[]⟩, .slice none 0 0, .slice none 0 0], .int .i64 e], rfl, rfl, fun j v a hv ha => ?_⟩
  rcases j with _ | _ | j <;> simp at hv ha
  · subst hv ha
    refine ⟨[.int .i64 0, .bool false, .int .i64 0, .string ⟨#[]⟩, .slice none 0 0, .slice none 0 0], rfl, ?_⟩
    have nl : ∀ esz, Rel1 σ (.slice none 0 0) (.lst .any esz []) := fun esz => .lst .any esz [] none 0 0 0 0 (fun _ _ => undef) rfl (by omega) (fun h => by omega) (fun i c h => by simp at h) (fun i j h => by omega) (fun i j c a h => by simp at h) trivial
    exact RelL.cons (.int _ _) (RelL.cons (.bool _) (RelL.cons (.int _ _) (RelL.cons (.str _) (RelL.cons (nl 6) (RelL.cons (nl 7) RelL.nil)))))
  · subst hv ha; exact .int _ _
theorem scal_a (s : ByteArray) (hz : s.size ≤ 1000000) : AC Tryz.prog 43 [.str s] (.tup [.agg [.int .i64 ((scalP s).1).kind, .bool ((scalP s).1).b, .int .i64 ((scalP s).1).n, .str ((scalP s).1).s, .lst .any 6 (rowsV ((scalP s).1).l), .lst .any 7 (rowsM ((scalP s).1).m)], .int .i64 (scalP s).2]) := by
  by_cases hok : (¬ (s = ⟨#[]⟩ ∨ s = ⟨#[126]⟩ ∨ s = wNull) → ¬ (s = wTrue ∨ s = wFalse) → numB s = true → ∃ v, Lib.atoiAll s.data.toList = .ok v)
  · exact scalOk_a s hz hok
  · have nn : ¬ (s = ⟨#[]⟩ ∨ s = ⟨#[126]⟩ ∨ s = wNull) := fun h => hok fun n => absurd h n
    have nb : ¬ (s = wTrue ∨ s = wFalse) := fun h => hok fun _ n => absurd h n
    have hN : numB s = true := by
      cases h : numB s with
      | true => rfl
      | false => exact absurd (fun _ _ n => by rw [h] at n; cases n) hok
    have hbad : ∀ v, Lib.atoiAll s.data.toList ≠ .ok v := fun v hv => hok fun _ _ _ => ⟨v, hv⟩
    obtain ⟨n, hA⟩ := parseErr_any s hz hbad
    have hp : scalP s = (V.null, 9) := by
      rw [scalP, if_neg nn, if_neg nb, if_neg (by rw [hN]; decide)]
      cases h : Lib.atoiAll s.data.toList with
      | ok v => exact absurd h (hbad v)
      | range => rfl
      | _ => rfl
    rw [hp]
    refine ⟨by kernel_rfl, fun σ w vs hh hr hg => ?_⟩
    have hl : vs.length = 1 := hr.1
    obtain ⟨v1, rfl⟩ := List.length_eq_one_iff.1 hl
    have h1 : Rel1 σ v1 (.str s) := hr.2 0 v1 _ rfl rfl
    cases h1
    refine (scalErr_any s hz nn nb hN n hA w hg).mono ?_
    rintro e w' ⟨rfl, hb⟩
    exact ⟨σ, _, rfl, Ext.refl _ _, fun b q v hv => (hb.cell (p := ⟨b, q, none⟩) (World.block_lt_of_cell? w _ (hh _ _ _ hv))).trans (hh _ _ _ hv), hb, zeroV_rel σ 9⟩
end Go.Proofs.YtfnpjakekeojoaaGreatDoor
/-
  The value of a word, or of a text in quotes, walked.
-/
namespace Go.Proofs.YtfnpjakekeojoaaGreatDoor
set_option linter.unusedSimpArgs false
set_option linter.unusedVariables false
open Go.RowKit

/-- what a text in quotes comes to -/
def quoP : Option (List UInt8 × List UInt8) → V × Int
  | none => (V.null, 11)
  | some (a, b) => if b = [] then (V.str ⟨a.toArray⟩, 0) else (V.null, 10)
def wordP (s : ByteArray) : V × Int := if (hasB s ⟨#[34]⟩ || hasB s ⟨#[39]⟩) = true then quoP (unq s) else scalP s
theorem valWord_a (s : ByteArray) (hz : s.size ≤ 1000000) : AC Tryz.prog 19 [.str s] (.tup [.agg [.int .i64 ((wordP s).1).kind, .bool ((wordP s).1).b, .int .i64 ((wordP s).1).n, .str ((wordP s).1).s, .lst .any 6 (rowsV ((wordP s).1).l), .lst .any 7 (rowsM ((wordP s).1).m)], .int .i64 (wordP s).2]) := by
  have h1 := has_a s ⟨#[34]⟩
  have h2 := has_a s ⟨#[39]⟩
  have h3 := unquote_a s hz
  have h4 := scal_a s hz
  refine AC.enter Tryz.func19 a_values_Word_ok a_values_Word_cb (by rfl) fun E hE => ?_
  show AK _ _ _ [.c b_values_Word] _ _
  rw [b_values_Word]
  (repeat (first | apply AK.seq | apply AK.block | apply AK.blk | apply AK.skip | (refine AK.reg follows_any (rs := []) (by rfl) ?_ ?_; first | exact trivial | exact ⟨trivial, trivial⟩ | exact ⟨trivial, trivial, trivial⟩ | exact ⟨trivial, trivial, trivial, trivial⟩ | fail) | fail))
  refine AK.reg follows_any (rs := [.v (.bool (hasB s ⟨#[34]⟩)), .v (.bool (hasB s ⟨#[39]⟩))]) (by rfl) ?_ ?_
  · ((repeat' apply And.intro) <;> first | trivial | omega | (simp only [List.length_nil, List.length_cons]; omega) | (intro hgd; first | (rw [hgd]; rfl) | (refine ⟨?_, by repeat (first | exact trivial | refine ⟨hgd, ?_⟩)⟩; (repeat' apply And.intro) <;> first | trivial | omega | (intro h2; rw [hgd, h2]; rfl) | skip)) | skip)
  refine AK.cond (by rfl) (fun hb => ?_) (fun hb => ?_)
  · have hq : wordP s = quoP (unq s) := by rw [wordP, if_pos hb]
    rw [hq]
    generalize unq s = R at *
    cases R with
    | none =>
      (repeat (first | apply AK.seq | apply AK.block | apply AK.blk | apply AK.skip | (refine AK.reg follows_any (rs := []) (by rfl) ?_ ?_; first | exact trivial | exact ⟨trivial, trivial⟩ | exact ⟨trivial, trivial, trivial⟩ | exact ⟨trivial, trivial, trivial, trivial⟩ | fail) | fail))
      refine AK.reg follows_any (rs := [.v (qA none)]) (by rfl) ?_ ?_
      · ((repeat' apply And.intro) <;> first | trivial | omega | (simp only [List.length_nil, List.length_cons]; omega) | (intro hgd; first | (rw [hgd]; rfl) | (refine ⟨?_, by repeat (first | exact trivial | refine ⟨hgd, ?_⟩)⟩; (repeat' apply And.intro) <;> first | trivial | omega | (intro h2; rw [hgd, h2]; rfl) | skip)) | skip)
      (repeat (first | apply AK.seq | apply AK.block | apply AK.blk | apply AK.skip | (refine AK.reg follows_any (rs := []) (by rfl) ?_ ?_; first | exact trivial | exact ⟨trivial, trivial⟩ | exact ⟨trivial, trivial, trivial⟩ | exact ⟨trivial, trivial, trivial, trivial⟩ | fail) | fail))
      refine AK.reg follows_any (rs := []) (by rfl) ?_ ?_
      · ((repeat' apply And.intro) <;> first | trivial | omega | (simp only [List.length_nil, List.length_cons]; omega) | (intro hgd; first | (rw [hgd]; rfl) | (refine ⟨?_, by repeat (first | exact trivial | refine ⟨hgd, ?_⟩)⟩; (repeat' apply And.intro) <;> first | trivial | omega | (intro h2; rw [hgd, h2]; rfl) | skip)) | skip)
      refine AK.cond (by rfl) (fun hb => ?_) (fun hb => ?_)
      · simp at hb
      (repeat (first | apply AK.seq | apply AK.block | apply AK.blk | apply AK.skip | (refine AK.reg follows_any (rs := []) (by rfl) ?_ ?_; first | exact trivial | exact ⟨trivial, trivial⟩ | exact ⟨trivial, trivial, trivial⟩ | exact ⟨trivial, trivial, trivial, trivial⟩ | fail) | fail))
      refine AK.cond (by rfl) (fun hb => ?_) (fun hb => ?_)
      · (repeat (first | apply AK.seq | apply AK.block | apply AK.blk | apply AK.skip | (refine AK.reg follows_any (rs := []) (by rfl) ?_ ?_; first | exact trivial | exact ⟨trivial, trivial⟩ | exact ⟨trivial, trivial, trivial⟩ | exact ⟨trivial, trivial, trivial, trivial⟩ | fail) | fail))
        refine AK.ret ⟨_, rfl, ?_⟩
        rfl
      · simp at hb
    | some p =>
      obtain ⟨a, b⟩ := p
      have h5 := treeStr_a ⟨a.toArray⟩
      (repeat (first | apply AK.seq | apply AK.block | apply AK.blk | apply AK.skip | (refine AK.reg follows_any (rs := []) (by rfl) ?_ ?_; first | exact trivial | exact ⟨trivial, trivial⟩ | exact ⟨trivial, trivial, trivial⟩ | exact ⟨trivial, trivial, trivial, trivial⟩ | fail) | fail))
      refine AK.reg follows_any (rs := [.v (qA (some (a, b)))]) (by rfl) ?_ ?_
      · ((repeat' apply And.intro) <;> first | trivial | omega | (simp only [List.length_nil, List.length_cons]; omega) | (intro hgd; first | (rw [hgd]; rfl) | (refine ⟨?_, by repeat (first | exact trivial | refine ⟨hgd, ?_⟩)⟩; (repeat' apply And.intro) <;> first | trivial | omega | (intro h2; rw [hgd, h2]; rfl) | skip)) | skip)
      (repeat (first | apply AK.seq | apply AK.block | apply AK.blk | apply AK.skip | (refine AK.reg follows_any (rs := []) (by rfl) ?_ ?_; first | exact trivial | exact ⟨trivial, trivial⟩ | exact ⟨trivial, trivial, trivial⟩ | exact ⟨trivial, trivial, trivial, trivial⟩ | fail) | fail))
      refine AK.reg follows_any (rs := []) (by rfl) ?_ ?_
      · ((repeat' apply And.intro) <;> first | trivial | omega | (simp only [List.length_nil, List.length_cons]; omega) | (intro hgd; first | (rw [hgd]; rfl) | (refine ⟨?_, by repeat (first | exact trivial | refine ⟨hgd, ?_⟩)⟩; (repeat' apply And.intro) <;> first | trivial | omega | (intro h2; rw [hgd, h2]; rfl) | skip)) | skip)
      by_cases hbn : b = []
      · subst hbn
        refine AK.cond (by rfl) (fun hb => ?_) (fun hb => ?_)
        · simp at hb
        (repeat (first | apply AK.seq | apply AK.block | apply AK.blk | apply AK.skip | (refine AK.reg follows_any (rs := []) (by rfl) ?_ ?_; first | exact trivial | exact ⟨trivial, trivial⟩ | exact ⟨trivial, trivial, trivial⟩ | exact ⟨trivial, trivial, trivial, trivial⟩ | fail) | fail))
        refine AK.cond (by rfl) (fun hb => ?_) (fun hb => ?_)
        · simp at hb
        (repeat (first | apply AK.seq | apply AK.block | apply AK.blk | apply AK.skip | (refine AK.reg follows_any (rs := []) (by rfl) ?_ ?_; first | exact trivial | exact ⟨trivial, trivial⟩ | exact ⟨trivial, trivial, trivial⟩ | exact ⟨trivial, trivial, trivial, trivial⟩ | fail) | fail))
        refine AK.reg follows_any (rs := [.v (.agg [.int .i64 ((V.str ⟨a.toArray⟩)).kind, .bool ((V.str ⟨a.toArray⟩)).b, .int .i64 ((V.str ⟨a.toArray⟩)).n, .str ((V.str ⟨a.toArray⟩)).s, .lst .any 6 (rowsV ((V.str ⟨a.toArray⟩)).l), .lst .any 7 (rowsM ((V.str ⟨a.toArray⟩)).m)])]) (by rfl) ?_ ?_
        · ((repeat' apply And.intro) <;> first | trivial | omega | (simp only [List.length_nil, List.length_cons]; omega) | (intro hgd; first | (rw [hgd]; rfl) | (refine ⟨?_, by repeat (first | exact trivial | refine ⟨hgd, ?_⟩)⟩; (repeat' apply And.intro) <;> first | trivial | omega | (intro h2; rw [hgd, h2]; rfl) | skip)) | skip)
        (repeat (first | apply AK.seq | apply AK.block | apply AK.blk | apply AK.skip | (refine AK.reg follows_any (rs := []) (by rfl) ?_ ?_; first | exact trivial | exact ⟨trivial, trivial⟩ | exact ⟨trivial, trivial, trivial⟩ | exact ⟨trivial, trivial, trivial, trivial⟩ | fail) | fail))
        refine AK.ret ⟨_, rfl, ?_⟩
        rfl
      · have hbn' : ¬ (ByteArray.mk b.toArray) = ByteArray.mk #[] := fun e => hbn (by injection e with e; simpa using e)
        have hqp : quoP (some (a, b)) = (V.null, 10) := by rw [quoP, if_neg hbn]
        refine AK.cond (by rfl) (fun hb => ?_) (fun hb => ?_)
        · (repeat (first | apply AK.seq | apply AK.block | apply AK.blk | apply AK.skip | (refine AK.reg follows_any (rs := []) (by rfl) ?_ ?_; first | exact trivial | exact ⟨trivial, trivial⟩ | exact ⟨trivial, trivial, trivial⟩ | exact ⟨trivial, trivial, trivial, trivial⟩ | fail) | fail))
          refine AK.cond (by rfl) (fun hb => ?_) (fun hb => ?_)
          · (repeat (first | apply AK.seq | apply AK.block | apply AK.blk | apply AK.skip | (refine AK.reg follows_any (rs := []) (by rfl) ?_ ?_; first | exact trivial | exact ⟨trivial, trivial⟩ | exact ⟨trivial, trivial, trivial⟩ | exact ⟨trivial, trivial, trivial, trivial⟩ | fail) | fail))
            refine AK.ret ⟨_, rfl, ?_⟩
            rw [hqp]
            rfl
          · simp at hb
        · exfalso
          simp [hbn'] at hb
  · have hq : wordP s = scalP s := by rw [wordP, if_neg (by rw [show (hasB s ⟨#[34]⟩ || hasB s ⟨#[39]⟩) = false from hb]; decide)]
    rw [hq]
    (repeat (first | apply AK.seq | apply AK.block | apply AK.blk | apply AK.skip | (refine AK.reg follows_any (rs := []) (by rfl) ?_ ?_; first | exact trivial | exact ⟨trivial, trivial⟩ | exact ⟨trivial, trivial, trivial⟩ | exact ⟨trivial, trivial, trivial, trivial⟩ | fail) | fail))
    refine AK.reg follows_any (rs := [.v (.tup [.agg [.int .i64 ((scalP s).1).kind, .bool ((scalP s).1).b, .int .i64 ((scalP s).1).n, .str ((scalP s).1).s, .lst .any 6 (rowsV ((scalP s).1).l), .lst .any 7 (rowsM ((scalP s).1).m)], .int .i64 (scalP s).2])]) (by rfl) ?_ ?_
    · ((repeat' apply And.intro) <;> first | trivial | omega | (simp only [List.length_nil, List.length_cons]; omega) | (intro hgd; first | (rw [hgd]; rfl) | (refine ⟨?_, by repeat (first | exact trivial | refine ⟨hgd, ?_⟩)⟩; (repeat' apply And.intro) <;> first | trivial | omega | (intro h2; rw [hgd, h2]; rfl) | skip)) | skip)
    (repeat (first | apply AK.seq | apply AK.block | apply AK.blk | apply AK.skip | (refine AK.reg follows_any (rs := []) (by rfl) ?_ ?_; first | exact trivial | exact ⟨trivial, trivial⟩ | exact ⟨trivial, trivial, trivial⟩ | exact ⟨trivial, trivial, trivial, trivial⟩ | fail) | fail))
    refine AK.ret ⟨_, rfl, ?_⟩
    rfl
end Go.Proofs.YtfnpjakekeojoaaGreatDoor
