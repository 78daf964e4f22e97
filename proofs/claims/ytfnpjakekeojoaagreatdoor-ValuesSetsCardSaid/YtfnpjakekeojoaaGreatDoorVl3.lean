/-
  The value of a word, walked: the program's.
-/
import Derived.Test.YtfnpjakekeojoaaGreatDoorVl1
import Derived.Lib.ParseIntBTie
import Derived.Test.YtfnpjakekeojoaaGreatDoorMap
import Derived.BigQuiet
import Derived.Test.YtfnpjakekeojoaaGreatDoorRp2
namespace Go.Proofs.YtfnpjakekeojoaaGreatDoor
set_option linter.unusedSimpArgs false
set_option linter.unusedVariables false
open Go.RowKit

def V.str (s : ByteArray) : V := .mk 3 false 0 s [] []
def V.int (n : Int) : V := .mk 2 false n ⟨#[]⟩ [] []
def V.bool (b : Bool) : V := .mk 1 b 0 ⟨#[]⟩ [] []
def wNull : ByteArray := ⟨#[110, 117, 108, 108]⟩
def wTrue : ByteArray := ⟨#[116, 114, 117, 101]⟩
def wFalse : ByteArray := ⟨#[102, 97, 108, 115, 101]⟩
/-- the value of a word; what is wrong -/
def scalP (s : ByteArray) : V × Int :=
  if s = ⟨#[]⟩ ∨ s = ⟨#[126]⟩ ∨ s = wNull then (V.null, 0)
  else if s = wTrue ∨ s = wFalse then (V.bool (decide (s = wTrue)), 0)
  else if numB s = false then (V.str s, 0)
  else match Lib.atoiAll s.data.toList with
    | .ok v => (V.int v, 0)
    | _ => (V.null, 9)
theorem treeStr_a (s : ByteArray) : AC Tryz.prog 42 [.str s] (.agg [.int .i64 ((V.str s)).kind, .bool ((V.str s)).b, .int .i64 ((V.str s)).n, .str ((V.str s)).s, .lst .any 6 (rowsV ((V.str s)).l), .lst .any 7 (rowsM ((V.str s)).m)]) := by
  refine AC.enter Tryz.func42 a_tree_Str_ok a_tree_Str_cb (by rfl) fun E hE => ?_
  show AK _ _ _ [.c b_tree_Str] _ _
  rw [b_tree_Str]
  (repeat (first | apply kS | apply kB | apply kL | apply kN | (refine kR follows_any [] (by rfl) ?_ ?_; first | exact kT1 | exact kT2 | exact kT3 | exact kT4)))
  refine AK.ret ⟨_, rfl, ?_⟩
  rfl
theorem treeInt_a (n : Int) : AC Tryz.prog 26 [.int .i64 n] (.agg [.int .i64 ((V.int n)).kind, .bool ((V.int n)).b, .int .i64 ((V.int n)).n, .str ((V.int n)).s, .lst .any 6 (rowsV ((V.int n)).l), .lst .any 7 (rowsM ((V.int n)).m)]) := by
  refine AC.enter Tryz.func26 a_tree_Int_ok a_tree_Int_cb (by rfl) fun E hE => ?_
  show AK _ _ _ [.c b_tree_Int] _ _
  rw [b_tree_Int]
  (repeat (first | apply kS | apply kB | apply kL | apply kN | (refine kR follows_any [] (by rfl) ?_ ?_; first | exact kT1 | exact kT2 | exact kT3 | exact kT4)))
  refine AK.ret ⟨_, rfl, ?_⟩
  rfl
theorem treeBool_a (b : Bool) : AC Tryz.prog 64 [.bool b] (.agg [.int .i64 ((V.bool b)).kind, .bool ((V.bool b)).b, .int .i64 ((V.bool b)).n, .str ((V.bool b)).s, .lst .any 6 (rowsV ((V.bool b)).l), .lst .any 7 (rowsM ((V.bool b)).m)]) := by
  refine AC.enter Tryz.func64 a_tree_Bool_ok a_tree_Bool_cb (by rfl) fun E hE => ?_
  show AK _ _ _ [.c b_tree_Bool] _ _
  rw [b_tree_Bool]
  (repeat (first | apply kS | apply kB | apply kL | apply kN | (refine kR follows_any [] (by rfl) ?_ ?_; first | exact kT1 | exact kT2 | exact kT3 | exact kT4)))
  refine AK.ret ⟨_, rfl, ?_⟩
  rfl
theorem treeNull_a : AC Tryz.prog 63 [] (.agg [.int .i64 (V.null).kind, .bool (V.null).b, .int .i64 (V.null).n, .str (V.null).s, .lst .any 6 (rowsV (V.null).l), .lst .any 7 (rowsM (V.null).m)]) := by
  refine AC.enter Tryz.func63 a_tree_Null_ok a_tree_Null_cb (by rfl) fun E hE => ?_
  show AK _ _ _ [.c b_tree_Null] _ _
  rw [b_tree_Null]
  (repeat (first | apply kS | apply kB | apply kL | apply kN | (refine kR follows_any [] (by rfl) ?_ ?_; first | exact kT1 | exact kT2 | exact kT3 | exact kT4)))
  refine AK.ret ⟨_, rfl, ?_⟩
  rfl
theorem parseInt_a (s : ByteArray) (v : Int) (hz : s.size ≤ 1000000) (h : Lib.atoiAll s.data.toList = .ok v) : AC Tryz.prog 66 [.str s, .int .i64 10, .int .i64 64] (.tup [.int .i64 v, .raw .nilIface]) := by
  refine ⟨by kernel_rfl, fun σ w vs hh hr hg => ?_⟩
  have hl : vs.length = 3 := hr.1
  obtain ⟨v1, v2, v3, rfl⟩ : ∃ a b c, vs = [a, b, c] := by
    rcases vs with _ | ⟨a, _ | ⟨b, _ | ⟨c, _ | ⟨d, l⟩⟩⟩⟩ <;> simp at hl
    exact ⟨a, b, c, rfl⟩
  have h1 : Rel1 σ v1 (.str s) := hr.2 0 v1 _ rfl rfl
  have h2 : Rel1 σ v2 (.int .i64 10) := hr.2 1 v2 _ rfl rfl
  have h3 : Rel1 σ v3 (.int .i64 64) := hr.2 2 v3 _ rfl rfl
  cases h1; cases h2; cases h3
  refine (Tryz.strconv_ParseInt_10_at64_ok s (by omega) v (by rw [Lib.parseIntB_64]; exact h) w).mono ?_
  rintro e w' ⟨rfl, hw⟩
  have hb : Below w.heap.size w w' := by
    rcases hw with rfl | ⟨t, rfl⟩
    · exact Below.refl _ _
    · exact Lib.bytesWorld_below _ _ _
  refine ⟨σ, _, rfl, Ext.refl _ _, fun b q v hv => (hb.cell (p := ⟨b, q, none⟩) (World.block_lt_of_cell? w _ (hh _ _ _ hv))).trans (hh _ _ _ hv), hb, ⟨[.int .i64 v, .nilIface], rfl, rfl, fun j v a hv ha => ?_⟩⟩
  rcases j with _ | _ | j <;> simp at hv ha
  · subst hv ha; exact .int _ _
  · subst hv ha; exact .raw _ rfl
theorem parseErr_any (s : ByteArray) (hz : s.size ≤ 1000000) (h : ∀ v, Lib.atoiAll s.data.toList ≠ .ok v) : ∃ n : Int, ∀ w : World, GW w → Calls Tryz.prog 66 #[.string s, .int .i64 10, .int .i64 64] w fun e w' => ∃ t p, e = .returned (.tuple #[.int .i64 n, .iface t (.pointer (some p))]) ∧ Below w.heap.size w w' := by
  cases hA : Lib.atoiAll s.data.toList with
  | ok v => exact absurd hA (h v)
  | range =>
    refine ⟨Lib.intSat 64 s.data.toList, fun w hg => ?_⟩
    obtain ⟨ev, h1, h2⟩ := hg.ifc_cell (g := gi_ErrRange) (by simp [globI])
    refine (Tryz.strconv_ParseInt_10_at64_range s (by omega) (by rw [Lib.parseIntB_64]; exact hA) ev w h1 h2).mono ?_
    rintro e w' ⟨N, rfl, _, _, hb⟩
    exact ⟨_, _, rfl, hb⟩
  | _ =>
    refine ⟨0, fun w hg => ?_⟩
    obtain ⟨ev, h1, h2⟩ := hg.ifc_cell (g := gi_ErrSyntax) (by simp [globI])
    refine (Tryz.strconv_ParseInt_10_at64_syntax s (by omega) (by rw [Lib.parseIntB_64]; exact hA) ev w h1 h2).mono ?_
    rintro e w' ⟨N, rfl, _, _, hb⟩
    exact ⟨_, _, rfl, hb⟩
theorem nilErr (neg : Bool) : NilRun Tryz.prog neg 78 .nilIface .nilIface true := by
  intro w x y hk
  have hg : (eqGuard (eqOp neg) 78 x y .nilIface .nilIface).run Tryz.prog w = .ok () w := by
    cases x <;> cases y <;> first | (cases hk; done) | (cases neg <;> simp [go_sem, eqGuard, eqOp])
  cases neg
  · exact ⟨hg, by simp [go_sem, eqOp]⟩
  · exact ⟨hg, by simp [go_sem, eqOp]⟩
theorem scalOk_a (s : ByteArray) (hz : s.size ≤ 1000000) (hok : (¬ (s = ⟨#[]⟩ ∨ s = ⟨#[126]⟩ ∨ s = wNull) → ¬ (s = wTrue ∨ s = wFalse) → numB s = true → ∃ v, Lib.atoiAll s.data.toList = .ok v)) : AC Tryz.prog 43 [.str s] (.tup [.agg [.int .i64 ((scalP s).1).kind, .bool ((scalP s).1).b, .int .i64 ((scalP s).1).n, .str ((scalP s).1).s, .lst .any 6 (rowsV ((scalP s).1).l), .lst .any 7 (rowsM ((scalP s).1).m)], .int .i64 (scalP s).2]) := by
  have hn := number_a s (by omega)
  have hs := treeStr_a s
  have h0 := treeNull_a
  refine AC.enter Tryz.func43 a_scalar_Parse_ok a_scalar_Parse_cb (by rfl) fun E hE => ?_
  show AK _ _ _ [.c b_scalar_Parse] _ _
  rw [b_scalar_Parse]
  have fin0 : s = ⟨#[]⟩ ∨ s = ⟨#[126]⟩ ∨ s = wNull → scalP s = (V.null, 0) := fun h => by rw [scalP, if_pos h]
  (repeat (first | apply kS | apply kB | apply kL | apply kN | (refine kR follows_any [] (by rfl) ?_ ?_; first | exact kT1 | exact kT2 | exact kT3 | exact kT4)))
  refine AK.cond (by rfl) (fun hb => ?_) (fun hb => ?_)
  · skip
    have h1 := fin0 (.inl (of_decide_eq_true hb))
    have hb0 := hb
    (repeat (first | apply kS | apply kB | apply kL | apply kN | (refine kR follows_any [] (by rfl) ?_ ?_; first | exact kT1 | exact kT2 | exact kT3 | exact kT4)))
    refine AK.cond (by rfl) (fun hb => ?_) (fun hb => ?_)
    · (repeat (first | apply kS | apply kB | apply kL | apply kN | (refine kR follows_any [] (by rfl) ?_ ?_; first | exact kT1 | exact kT2 | exact kT3 | exact kT4)))
      refine kR follows_any [.v (.agg [.int .i64 (V.null).kind, .bool (V.null).b, .int .i64 (V.null).n, .str (V.null).s, .lst .any 6 (rowsV (V.null).l), .lst .any 7 (rowsM (V.null).m)])] (by rfl) ?_ ?_
      · ((repeat' apply And.intro) <;> first | trivial | omega | (simp only [List.length_nil, List.length_cons]; omega) | (intro hgd; first | (rw [hgd]; rfl) | (refine ⟨?_, by repeat (first | exact trivial | refine ⟨hgd, ?_⟩)⟩; (repeat' apply And.intro) <;> first | trivial | omega | (intro h2; rw [hgd, h2]; rfl) | skip)) | skip)
      (repeat (first | apply kS | apply kB | apply kL | apply kN | (refine kR follows_any [] (by rfl) ?_ ?_; first | exact kT1 | exact kT2 | exact kT3 | exact kT4)))
      refine AK.ret ⟨_, rfl, ?_⟩
      rw [h1]
      rfl
    · rw [hb0] at hb
      cases hb
  have n1 := of_decide_eq_false hb
  (repeat (first | apply kS | apply kB | apply kL | apply kN | (refine kR follows_any [] (by rfl) ?_ ?_; first | exact kT1 | exact kT2 | exact kT3 | exact kT4)))
  refine AK.cond (by rfl) (fun hb => ?_) (fun hb => ?_)
  · skip
    have h1 := fin0 (.inr (.inl (of_decide_eq_true hb)))
    have hb0 := hb
    (repeat (first | apply kS | apply kB | apply kL | apply kN | (refine kR follows_any [] (by rfl) ?_ ?_; first | exact kT1 | exact kT2 | exact kT3 | exact kT4)))
    refine AK.cond (by rfl) (fun hb => ?_) (fun hb => ?_)
    · (repeat (first | apply kS | apply kB | apply kL | apply kN | (refine kR follows_any [] (by rfl) ?_ ?_; first | exact kT1 | exact kT2 | exact kT3 | exact kT4)))
      refine kR follows_any [.v (.agg [.int .i64 (V.null).kind, .bool (V.null).b, .int .i64 (V.null).n, .str (V.null).s, .lst .any 6 (rowsV (V.null).l), .lst .any 7 (rowsM (V.null).m)])] (by rfl) ?_ ?_
      · ((repeat' apply And.intro) <;> first | trivial | omega | (simp only [List.length_nil, List.length_cons]; omega) | (intro hgd; first | (rw [hgd]; rfl) | (refine ⟨?_, by repeat (first | exact trivial | refine ⟨hgd, ?_⟩)⟩; (repeat' apply And.intro) <;> first | trivial | omega | (intro h2; rw [hgd, h2]; rfl) | skip)) | skip)
      (repeat (first | apply kS | apply kB | apply kL | apply kN | (refine kR follows_any [] (by rfl) ?_ ?_; first | exact kT1 | exact kT2 | exact kT3 | exact kT4)))
      refine AK.ret ⟨_, rfl, ?_⟩
      rw [h1]
      rfl
    · rw [hb0] at hb
      cases hb
  have n2 := of_decide_eq_false hb
  (repeat (first | apply kS | apply kB | apply kL | apply kN | (refine kR follows_any [] (by rfl) ?_ ?_; first | exact kT1 | exact kT2 | exact kT3 | exact kT4)))
  refine AK.cond (by rfl) (fun hb => ?_) (fun hb => ?_)
  · have hb3 : s = wNull := of_decide_eq_true hb
    have h1 := fin0 (.inr (.inr hb3))
    (repeat (first | apply kS | apply kB | apply kL | apply kN | (refine kR follows_any [] (by rfl) ?_ ?_; first | exact kT1 | exact kT2 | exact kT3 | exact kT4)))
    refine kR follows_any [.v (.agg [.int .i64 (V.null).kind, .bool (V.null).b, .int .i64 (V.null).n, .str (V.null).s, .lst .any 6 (rowsV (V.null).l), .lst .any 7 (rowsM (V.null).m)])] (by rfl) ?_ ?_
    · ((repeat' apply And.intro) <;> first | trivial | omega | (simp only [List.length_nil, List.length_cons]; omega) | (intro hgd; first | (rw [hgd]; rfl) | (refine ⟨?_, by repeat (first | exact trivial | refine ⟨hgd, ?_⟩)⟩; (repeat' apply And.intro) <;> first | trivial | omega | (intro h2; rw [hgd, h2]; rfl) | skip)) | skip)
    (repeat (first | apply kS | apply kB | apply kL | apply kN | (refine kR follows_any [] (by rfl) ?_ ?_; first | exact kT1 | exact kT2 | exact kT3 | exact kT4)))
    refine AK.ret ⟨_, rfl, ?_⟩
    rw [h1]
    rfl
  have n3 : ¬ s = wNull := of_decide_eq_false hb
  have nn : ¬ (s = ⟨#[]⟩ ∨ s = ⟨#[126]⟩ ∨ s = wNull) := fun h => h.elim n1 fun h => h.elim n2 n3
  have fin1 : s = wTrue ∨ s = wFalse → scalP s = (V.bool (decide (s = wTrue)), 0) := fun h => by rw [scalP, if_neg nn, if_pos h]
  (repeat (first | apply kS | apply kB | apply kL | apply kN | (refine kR follows_any [] (by rfl) ?_ ?_; first | exact kT1 | exact kT2 | exact kT3 | exact kT4)))
  refine AK.cond (by rfl) (fun hb => ?_) (fun hb => ?_)
  · skip
    have h1 := fin1 (.inl (of_decide_eq_true hb))
    have hb0 := hb
    have hB := treeBool_a (decide (s = wTrue))
    (repeat (first | apply kS | apply kB | apply kL | apply kN | (refine kR follows_any [] (by rfl) ?_ ?_; first | exact kT1 | exact kT2 | exact kT3 | exact kT4)))
    refine AK.cond (by rfl) (fun hb => ?_) (fun hb => ?_)
    · (repeat (first | apply kS | apply kB | apply kL | apply kN | (refine kR follows_any [] (by rfl) ?_ ?_; first | exact kT1 | exact kT2 | exact kT3 | exact kT4)))
      refine kR follows_any [.v (.agg [.int .i64 ((V.bool (decide (s = wTrue)))).kind, .bool ((V.bool (decide (s = wTrue)))).b, .int .i64 ((V.bool (decide (s = wTrue)))).n, .str ((V.bool (decide (s = wTrue)))).s, .lst .any 6 (rowsV ((V.bool (decide (s = wTrue)))).l), .lst .any 7 (rowsM ((V.bool (decide (s = wTrue)))).m)])] (by rfl) ?_ ?_
      · ((repeat' apply And.intro) <;> first | trivial | omega | (simp only [List.length_nil, List.length_cons]; omega) | (intro hgd; first | (rw [hgd]; rfl) | (refine ⟨?_, by repeat (first | exact trivial | refine ⟨hgd, ?_⟩)⟩; (repeat' apply And.intro) <;> first | trivial | omega | (intro h2; rw [hgd, h2]; rfl) | skip)) | skip)
      (repeat (first | apply kS | apply kB | apply kL | apply kN | (refine kR follows_any [] (by rfl) ?_ ?_; first | exact kT1 | exact kT2 | exact kT3 | exact kT4)))
      refine AK.ret ⟨_, rfl, ?_⟩
      rw [h1]
      rfl
    · rw [hb0] at hb
      cases hb
  have n4 : ¬ s = wTrue := of_decide_eq_false hb
  (repeat (first | apply kS | apply kB | apply kL | apply kN | (refine kR follows_any [] (by rfl) ?_ ?_; first | exact kT1 | exact kT2 | exact kT3 | exact kT4)))
  refine AK.cond (by rfl) (fun hb => ?_) (fun hb => ?_)
  · have h1 := fin1 (.inr (of_decide_eq_true hb))
    have hB := treeBool_a (decide (s = wTrue))
    (repeat (first | apply kS | apply kB | apply kL | apply kN | (refine kR follows_any [] (by rfl) ?_ ?_; first | exact kT1 | exact kT2 | exact kT3 | exact kT4)))
    refine kR follows_any [.v (.agg [.int .i64 ((V.bool (decide (s = wTrue)))).kind, .bool ((V.bool (decide (s = wTrue)))).b, .int .i64 ((V.bool (decide (s = wTrue)))).n, .str ((V.bool (decide (s = wTrue)))).s, .lst .any 6 (rowsV ((V.bool (decide (s = wTrue)))).l), .lst .any 7 (rowsM ((V.bool (decide (s = wTrue)))).m)])] (by rfl) ?_ ?_
    · ((repeat' apply And.intro) <;> first | trivial | omega | (simp only [List.length_nil, List.length_cons]; omega) | (intro hgd; first | (rw [hgd]; rfl) | (refine ⟨?_, by repeat (first | exact trivial | refine ⟨hgd, ?_⟩)⟩; (repeat' apply And.intro) <;> first | trivial | omega | (intro h2; rw [hgd, h2]; rfl) | skip)) | skip)
    (repeat (first | apply kS | apply kB | apply kL | apply kN | (refine kR follows_any [] (by rfl) ?_ ?_; first | exact kT1 | exact kT2 | exact kT3 | exact kT4)))
    refine AK.ret ⟨_, rfl, ?_⟩
    rw [h1]
    rfl
  have n5 : ¬ s = wFalse := of_decide_eq_false hb
  have nb : ¬ (s = wTrue ∨ s = wFalse) := fun h => h.elim n4 n5
  (repeat (first | apply kS | apply kB | apply kL | apply kN | (refine kR follows_any [] (by rfl) ?_ ?_; first | exact kT1 | exact kT2 | exact kT3 | exact kT4)))
  refine kR follows_any [.v (.bool (numB s))] (by rfl) ?_ ?_
  · ((repeat' apply And.intro) <;> first | trivial | omega | (simp only [List.length_nil, List.length_cons]; omega) | (intro hgd; first | (rw [hgd]; rfl) | (refine ⟨?_, by repeat (first | exact trivial | refine ⟨hgd, ?_⟩)⟩; (repeat' apply And.intro) <;> first | trivial | omega | (intro h2; rw [hgd, h2]; rfl) | skip)) | skip)
  refine AK.cond (by rfl) (fun hb => ?_) (fun hb => ?_)
  · have hN : numB s = false := by simpa using hb
    have h1 : scalP s = (V.str s, 0) := by rw [scalP, if_neg nn, if_neg nb, if_pos hN]
    (repeat (first | apply kS | apply kB | apply kL | apply kN | (refine kR follows_any [] (by rfl) ?_ ?_; first | exact kT1 | exact kT2 | exact kT3 | exact kT4)))
    refine kR follows_any [.v (.agg [.int .i64 ((V.str s)).kind, .bool ((V.str s)).b, .int .i64 ((V.str s)).n, .str ((V.str s)).s, .lst .any 6 (rowsV ((V.str s)).l), .lst .any 7 (rowsM ((V.str s)).m)])] (by rfl) ?_ ?_
    · ((repeat' apply And.intro) <;> first | trivial | omega | (simp only [List.length_nil, List.length_cons]; omega) | (intro hgd; first | (rw [hgd]; rfl) | (refine ⟨?_, by repeat (first | exact trivial | refine ⟨hgd, ?_⟩)⟩; (repeat' apply And.intro) <;> first | trivial | omega | (intro h2; rw [hgd, h2]; rfl) | skip)) | skip)
    (repeat (first | apply kS | apply kB | apply kL | apply kN | (refine kR follows_any [] (by rfl) ?_ ?_; first | exact kT1 | exact kT2 | exact kT3 | exact kT4)))
    refine AK.ret ⟨_, rfl, ?_⟩
    rw [h1]
    rfl
  · have hN : numB s = true := by simpa using hb
    obtain ⟨v, hv⟩ := hok nn nb hN
    have h1 : scalP s = (V.int v, 0) := by rw [scalP, if_neg nn, if_neg nb, if_neg (by rw [hN]; decide), hv]
    have hP := parseInt_a s v hz hv
    have hI := treeInt_a v
    (repeat (first | apply kS | apply kB | apply kL | apply kN | (refine kR follows_any [] (by rfl) ?_ ?_; first | exact kT1 | exact kT2 | exact kT3 | exact kT4)))
    refine kR follows_any [.v (.tup [.int .i64 v, .raw .nilIface])] (by rfl) ?_ ?_
    · ((repeat' apply And.intro) <;> first | trivial | omega | (simp only [List.length_nil, List.length_cons]; omega) | (intro hgd; first | (rw [hgd]; rfl) | (refine ⟨?_, by repeat (first | exact trivial | refine ⟨hgd, ?_⟩)⟩; (repeat' apply And.intro) <;> first | trivial | omega | (intro h2; rw [hgd, h2]; rfl) | skip)) | skip)
    (repeat (first | apply kS | apply kB | apply kL | apply kN | (refine kR follows_any [] (by rfl) ?_ ?_; first | exact kT1 | exact kT2 | exact kT3 | exact kT4)))
    refine kR follows_any [] (by rfl) ?_ ?_
    · ((repeat' apply And.intro) <;> first | trivial | omega | (simp only [List.length_nil, List.length_cons]; omega) | (intro hgd; first | (rw [hgd]; rfl) | (refine ⟨?_, by repeat (first | exact trivial | refine ⟨hgd, ?_⟩)⟩; (repeat' apply And.intro) <;> first | trivial | omega | (intro h2; rw [hgd, h2]; rfl) | skip)) | skip)
      exact nilErr true
    refine AK.cond (by rfl) (fun hb => ?_) (fun hb => ?_)
    · cases hb
    (repeat (first | apply kS | apply kB | apply kL | apply kN | (refine kR follows_any [] (by rfl) ?_ ?_; first | exact kT1 | exact kT2 | exact kT3 | exact kT4)))
    refine kR follows_any [.v (.agg [.int .i64 ((V.int v)).kind, .bool ((V.int v)).b, .int .i64 ((V.int v)).n, .str ((V.int v)).s, .lst .any 6 (rowsV ((V.int v)).l), .lst .any 7 (rowsM ((V.int v)).m)])] (by rfl) ?_ ?_
    · ((repeat' apply And.intro) <;> first | trivial | omega | (simp only [List.length_nil, List.length_cons]; omega) | (intro hgd; first | (rw [hgd]; rfl) | (refine ⟨?_, by repeat (first | exact trivial | refine ⟨hgd, ?_⟩)⟩; (repeat' apply And.intro) <;> first | trivial | omega | (intro h2; rw [hgd, h2]; rfl) | skip)) | skip)
    (repeat (first | apply kS | apply kB | apply kL | apply kN | (refine kR follows_any [] (by rfl) ?_ ?_; first | exact kT1 | exact kT2 | exact kT3 | exact kT4)))
    refine AK.ret ⟨_, rfl, ?_⟩
    rw [h1]
    rfl
end Go.Proofs.YtfnpjakekeojoaaGreatDoor
/-
  The value of a word that is a number too great, walked; the value of a word, at any.
-/
namespace Go.Proofs.YtfnpjakekeojoaaGreatDoor
set_option linter.unusedSimpArgs false
set_option linter.unusedVariables false
open Go.RowKit

theorem AC.bool_at {f : FuncId} {s : ByteArray} {b : Bool} (h : AC Tryz.prog f [.str s] (.bool b)) {w : World} (hg : GW w) : Calls Tryz.prog f #[.string s] w fun e w' => e = .returned (.bool b) ∧ Below w.heap.size w w' := by
  refine (h.run (fun _ _ => none) w [.string s] (fun _ _ _ h => by cases h) ⟨rfl, fun j v a hv ha => ?_⟩ hg).mono ?_
  · rcases j with _ | j <;> simp at hv ha
    subst hv ha
    exact .str s
  · rintro e w' ⟨σ', v, rfl, _, _, hb, hr⟩
    have hr : Rel1 σ' v (.bool b) := hr
    cases hr
    exact ⟨rfl, hb⟩
theorem ne_list {s t : ByteArray} (h : ¬ s = t) : (s.toList == t.data.toList) = false := by
  rw [beq_eq_false_iff_ne]
  intro e
  refine h (ByteArray.ext (Array.ext' ?_))
  rw [← Lib.toList_data s, e]
set_option maxHeartbeats 2000000 in
theorem scalErr_any (s : ByteArray) (hz : s.size ≤ 1000000) (nn : ¬ (s = ⟨#[]⟩ ∨ s = ⟨#[126]⟩ ∨ s = wNull)) (nb : ¬ (s = wTrue ∨ s = wFalse)) (hN : numB s = true) (n : Int) (hA : ∀ w : World, GW w → Calls Tryz.prog 66 #[.string s, .int .i64 10, .int .i64 64] w fun e w' => ∃ t p, e = .returned (.tuple #[.int .i64 n, .iface t (.pointer (some p))]) ∧ Below w.heap.size w w') (w : World) (hg : GW w) :
    Calls Tryz.prog 43 #[.string s] w fun e w' => e = .returned (.tuple #[.agg #[.int .i64 0, .bool false, .int .i64 0, .string ⟨#[]⟩, .slice none 0 0, .slice none 0 0], .int .i64 9]) ∧ Below w.heap.size w w' := by
  have h1 : (s.toList == []) = false := ne_list (t := ⟨#[]⟩) fun h => nn (.inl h)
  have h2 : (s.toList == [126]) = false := ne_list (t := ⟨#[126]⟩) fun h => nn (.inr (.inl h))
  have h3 : (s.toList == [110, 117, 108, 108]) = false := ne_list (t := wNull) fun h => nn (.inr (.inr h))
  have h4 : (s.toList == [116, 114, 117, 101]) = false := ne_list (t := wTrue) fun h => nb (.inl h)
  have h5 : (s.toList == [102, 97, 108, 115, 101]) = false := ne_list (t := wFalse) fun h => nb (.inr h)
  have hn := fun (w : World) (hg : GW w) => AC.bool_at (number_a s (by omega)) hg
  rw [hN] at hn
  clear nn nb hN
  go_enter Tryz.func43, Tryz.ntmps43
  go_wp2_with fail
  have hb0 : Below w.heap.size w (w.alloc (.cells #[.int .i64 0, .bool false, .int .i64 0, .string ⟨#[]⟩, .slice none 0 0, .slice none 0 0] 25)) := (Below.refl _ _).alloc (Nat.le_refl _) _
  have hk0 : Blk (w.alloc (.cells #[.int .i64 0, .bool false, .int .i64 0, .string ⟨#[]⟩, .slice none 0 0, .slice none 0 0] 25)) w.heap.size 25 #[.int .i64 0, .bool false, .int .i64 0, .string ⟨#[]⟩, .slice none 0 0, .slice none 0 0] := Blk.new _ _ _ rfl
  have hg0 := hg.below hb0
  refine (hn _ hg0).mono ?_
  rintro e w1 ⟨rfl, hb1⟩
  have hk1 := hk0.below hb1 (by simp)
  have hg1 := hg0.below hb1
  have hB1 : Below w.heap.size w w1 := hb0.trans (hb1.mono (by simp))
  clear hn hb0 hk0 hg0 hb1
  go_wp2_with fail
  refine (hA _ hg1).mono ?_
  rintro e w2 ⟨t, p, rfl, hb2⟩
  have hk2 := hk1.below hb2 hk1.lt
  have hB2 : Below w.heap.size w w2 := hB1.trans (hb2.mono hB1.size)
  have HK := Lib.hid hk2
  have HB := Lib.hid hB2
  have hz2 : w.heap.size < w2.heap.size := hk2.lt
  clear hA hb2 hk1 hg1 hB1 hk2 hB2
  have q1 : ∀ w : World, (binOp .neq 78 (.iface t (.pointer (some p))) .nilIface).run Tryz.prog w = .ok (.bool true) w := fun w => by simp [go_sem]
  go_wp2_with ((with_reducible refine wpList_store_row 2 30 25 (w.heap.size) 25 #[.int .i64 0, .bool false, .int .i64 0, .string ⟨#[]⟩, .slice none 0 0, .slice none 0 0] #[.int .i64 0, .bool false, .int .i64 0, .string ⟨#[]⟩, .slice none 0 0, .slice none 0 0] ?_ ?_ ?_ ?_ ?_ ?_ ?_); rfl; rfl; exact HK.out; rfl; exact (show ∀ u ∈ [Value.int .i64 0, .bool false, .int .i64 0, .string ⟨#[]⟩, .slice none 0 0, .slice none 0 0], u.oneCell' = true by simp [Value.oneCell']); kernel_rfl)
  refine bodyPost_ret (results_cell_tmp_row rfl _ _ _ _ _ _ rfl (HK.out.set _) Tryz.underlying25 rfl (by kernel_rfl)) rfl ⟨rfl, ?_⟩
  exact below_setRow HB.out (Nat.le_refl _) _
theorem zeroV_rel (σ : Sg) (e : Int) : RelR σ (.tuple #[.agg #[.int .i64 0, .bool false, .int .i64 0, .string ⟨#[]⟩, .slice none 0 0, .slice none 0 0], .int .i64 e]) (.tup [.agg [.int .i64 (V.null).kind, .bool (V.null).b, .int .i64 (V.null).n, .str (V.null).s, .lst .any 6 (rowsV (V.null).l), .lst .any 7 (rowsM (V.null).m)], .int .i64 e]) := by
  refine ⟨[.agg #[.int .i64 0, .bool false, .int .i64 0, .string ⟨#[]⟩, .slice none 0 0, .slice none 0 0], .int .i64 e], rfl, rfl, fun j v a hv ha => ?_⟩
  rcases j with _ | _ | j <;> simp at hv ha
  · subst hv ha
    refine ⟨[.int .i64 0, .bool false, .int .i64 0, .string ⟨#[]⟩, .slice none 0 0, .slice none 0 0], rfl, ?_⟩
    have nl : ∀ esz, Rel1 σ (.slice none 0 0) (.lst .any esz []) := fun esz => .lst .any esz [] none 0 0 0 0 (fun _ _ => undef) rfl (by omega) (fun h => by omega) (fun i c h => by simp at h) (fun i j h => by omega) (fun i j c a h => by simp at h) trivial
    exact RelL.cons (.int _ _) (RelL.cons (.bool _) (RelL.cons (.int _ _) (RelL.cons (.str _) (RelL.cons (nl 6) (RelL.cons (nl 7) RelL.nil)))))
  · subst hv ha; exact .int _ _
theorem scal_a (s : ByteArray) (hz : s.size ≤ 1000000) : AC Tryz.prog 43 [.str s] (.tup [.agg [.int .i64 ((scalP s).1).kind, .bool ((scalP s).1).b, .int .i64 ((scalP s).1).n, .str ((scalP s).1).s, .lst .any 6 (rowsV ((scalP s).1).l), .lst .any 7 (rowsM ((scalP s).1).m)], .int .i64 (scalP s).2]) := by
  by_cases hok : (¬ (s = ⟨#[]⟩ ∨ s = ⟨#[126]⟩ ∨ s = wNull) → ¬ (s = wTrue ∨ s = wFalse) → numB s = true → ∃ v, Lib.atoiAll s.data.toList = .ok v)
  · exact scalOk_a s hz hok
  · have nn : ¬ (s = ⟨#[]⟩ ∨ s = ⟨#[126]⟩ ∨ s = wNull) := fun h => hok fun n => absurd h n
    have nb : ¬ (s = wTrue ∨ s = wFalse) := fun h => hok fun _ n => absurd h n
    have hN : numB s = true := by
      cases h : numB s with
      | true => rfl
      | false => exact absurd (fun _ _ n => by rw [h] at n; cases n) hok
    have hbad : ∀ v, Lib.atoiAll s.data.toList ≠ .ok v := fun v hv => hok fun _ _ _ => ⟨v, hv⟩
    obtain ⟨n, hA⟩ := parseErr_any s hz hbad
    have hp : scalP s = (V.null, 9) := by
      rw [scalP, if_neg nn, if_neg nb, if_neg (by rw [hN]; decide)]
      cases h : Lib.atoiAll s.data.toList with
      | ok v => exact absurd h (hbad v)
      | range => rfl
      | _ => rfl
    rw [hp]
    refine ⟨by kernel_rfl, fun σ w vs hh hr hg => ?_⟩
    have hl : vs.length = 1 := hr.1
    obtain ⟨v1, rfl⟩ := List.length_eq_one_iff.1 hl
    have h1 : Rel1 σ v1 (.str s) := hr.2 0 v1 _ rfl rfl
    cases h1
    refine (scalErr_any s hz nn nb hN n hA w hg).mono ?_
    rintro e w' ⟨rfl, hb⟩
    exact ⟨σ, _, rfl, Ext.refl _ _, fun b q v hv => (hb.cell (p := ⟨b, q, none⟩) (World.block_lt_of_cell? w _ (hh _ _ _ hv))).trans (hh _ _ _ hv), hb, zeroV_rel σ 9⟩
end Go.Proofs.YtfnpjakekeojoaaGreatDoor
/-
  The value of a word, or of a text in quotes, walked.
-/
namespace Go.Proofs.YtfnpjakekeojoaaGreatDoor
set_option linter.unusedSimpArgs false
set_option linter.unusedVariables false
open Go.RowKit

/-- what a text in quotes comes to -/
def quoP : Option (List UInt8 × List UInt8) → V × Int
  | none => (V.null, 11)
  | some (a, b) => if b = [] then (V.str ⟨a.toArray⟩, 0) else (V.null, 10)
def wordP (s : ByteArray) : V × Int := if (hasB s ⟨#[34]⟩ || hasB s ⟨#[39]⟩) = true then quoP (unq s) else scalP s
theorem valWord_a (s : ByteArray) (hz : s.size ≤ 1000000) : AC Tryz.prog 19 [.str s] (.tup [.agg [.int .i64 ((wordP s).1).kind, .bool ((wordP s).1).b, .int .i64 ((wordP s).1).n, .str ((wordP s).1).s, .lst .any 6 (rowsV ((wordP s).1).l), .lst .any 7 (rowsM ((wordP s).1).m)], .int .i64 (wordP s).2]) := by
  have h1 := has_a s ⟨#[34]⟩
  have h2 := has_a s ⟨#[39]⟩
  have h3 := unquote_a s hz
  have h4 := scal_a s hz
  refine AC.enter Tryz.func19 a_values_Word_ok a_values_Word_cb (by rfl) fun E hE => ?_
  show AK _ _ _ [.c b_values_Word] _ _
  rw [b_values_Word]
  (repeat (first | apply kS | apply kB | apply kL | apply kN | (refine kR follows_any [] (by rfl) ?_ ?_; first | exact kT1 | exact kT2 | exact kT3 | exact kT4)))
  refine kR follows_any [.v (.bool (hasB s ⟨#[34]⟩)), .v (.bool (hasB s ⟨#[39]⟩))] (by rfl) ?_ ?_
  · ((repeat' apply And.intro) <;> first | trivial | omega | (simp only [List.length_nil, List.length_cons]; omega) | (intro hgd; first | (rw [hgd]; rfl) | (refine ⟨?_, by repeat (first | exact trivial | refine ⟨hgd, ?_⟩)⟩; (repeat' apply And.intro) <;> first | trivial | omega | (intro h2; rw [hgd, h2]; rfl) | skip)) | skip)
  refine AK.cond (by rfl) (fun hb => ?_) (fun hb => ?_)
  · have hq : wordP s = quoP (unq s) := by rw [wordP, if_pos hb]
    rw [hq]
    generalize unq s = R at *
    cases R with
    | none =>
      (repeat (first | apply kS | apply kB | apply kL | apply kN | (refine kR follows_any [] (by rfl) ?_ ?_; first | exact kT1 | exact kT2 | exact kT3 | exact kT4)))
      refine kR follows_any [.v (qA none)] (by rfl) ?_ ?_
      · ((repeat' apply And.intro) <;> first | trivial | omega | (simp only [List.length_nil, List.length_cons]; omega) | (intro hgd; first | (rw [hgd]; rfl) | (refine ⟨?_, by repeat (first | exact trivial | refine ⟨hgd, ?_⟩)⟩; (repeat' apply And.intro) <;> first | trivial | omega | (intro h2; rw [hgd, h2]; rfl) | skip)) | skip)
      (repeat (first | apply kS | apply kB | apply kL | apply kN | (refine kR follows_any [] (by rfl) ?_ ?_; first | exact kT1 | exact kT2 | exact kT3 | exact kT4)))
      refine kR follows_any [] (by rfl) ?_ ?_
      · ((repeat' apply And.intro) <;> first | trivial | omega | (simp only [List.length_nil, List.length_cons]; omega) | (intro hgd; first | (rw [hgd]; rfl) | (refine ⟨?_, by repeat (first | exact trivial | refine ⟨hgd, ?_⟩)⟩; (repeat' apply And.intro) <;> first | trivial | omega | (intro h2; rw [hgd, h2]; rfl) | skip)) | skip)
      refine AK.cond (by rfl) (fun hb => ?_) (fun hb => ?_)
      · simp at hb
      (repeat (first | apply kS | apply kB | apply kL | apply kN | (refine kR follows_any [] (by rfl) ?_ ?_; first | exact kT1 | exact kT2 | exact kT3 | exact kT4)))
      refine AK.cond (by rfl) (fun hb => ?_) (fun hb => ?_)
      · (repeat (first | apply kS | apply kB | apply kL | apply kN | (refine kR follows_any [] (by rfl) ?_ ?_; first | exact kT1 | exact kT2 | exact kT3 | exact kT4)))
        refine AK.ret ⟨_, rfl, ?_⟩
        rfl
      · simp at hb
    | some p =>
      obtain ⟨a, b⟩ := p
      have h5 := treeStr_a ⟨a.toArray⟩
      (repeat (first | apply kS | apply kB | apply kL | apply kN | (refine kR follows_any [] (by rfl) ?_ ?_; first | exact kT1 | exact kT2 | exact kT3 | exact kT4)))
      refine kR follows_any [.v (qA (some (a, b)))] (by rfl) ?_ ?_
      · ((repeat' apply And.intro) <;> first | trivial | omega | (simp only [List.length_nil, List.length_cons]; omega) | (intro hgd; first | (rw [hgd]; rfl) | (refine ⟨?_, by repeat (first | exact trivial | refine ⟨hgd, ?_⟩)⟩; (repeat' apply And.intro) <;> first | trivial | omega | (intro h2; rw [hgd, h2]; rfl) | skip)) | skip)
      (repeat (first | apply kS | apply kB | apply kL | apply kN | (refine kR follows_any [] (by rfl) ?_ ?_; first | exact kT1 | exact kT2 | exact kT3 | exact kT4)))
      refine kR follows_any [] (by rfl) ?_ ?_
      · ((repeat' apply And.intro) <;> first | trivial | omega | (simp only [List.length_nil, List.length_cons]; omega) | (intro hgd; first | (rw [hgd]; rfl) | (refine ⟨?_, by repeat (first | exact trivial | refine ⟨hgd, ?_⟩)⟩; (repeat' apply And.intro) <;> first | trivial | omega | (intro h2; rw [hgd, h2]; rfl) | skip)) | skip)
      by_cases hbn : b = []
      · subst hbn
        refine AK.cond (by rfl) (fun hb => ?_) (fun hb => ?_)
        · simp at hb
        (repeat (first | apply kS | apply kB | apply kL | apply kN | (refine kR follows_any [] (by rfl) ?_ ?_; first | exact kT1 | exact kT2 | exact kT3 | exact kT4)))
        refine AK.cond (by rfl) (fun hb => ?_) (fun hb => ?_)
        · simp at hb
        (repeat (first | apply kS | apply kB | apply kL | apply kN | (refine kR follows_any [] (by rfl) ?_ ?_; first | exact kT1 | exact kT2 | exact kT3 | exact kT4)))
        refine kR follows_any [.v (.agg [.int .i64 ((V.str ⟨a.toArray⟩)).kind, .bool ((V.str ⟨a.toArray⟩)).b, .int .i64 ((V.str ⟨a.toArray⟩)).n, .str ((V.str ⟨a.toArray⟩)).s, .lst .any 6 (rowsV ((V.str ⟨a.toArray⟩)).l), .lst .any 7 (rowsM ((V.str ⟨a.toArray⟩)).m)])] (by rfl) ?_ ?_
        · ((repeat' apply And.intro) <;> first | trivial | omega | (simp only [List.length_nil, List.length_cons]; omega) | (intro hgd; first | (rw [hgd]; rfl) | (refine ⟨?_, by repeat (first | exact trivial | refine ⟨hgd, ?_⟩)⟩; (repeat' apply And.intro) <;> first | trivial | omega | (intro h2; rw [hgd, h2]; rfl) | skip)) | skip)
        (repeat (first | apply kS | apply kB | apply kL | apply kN | (refine kR follows_any [] (by rfl) ?_ ?_; first | exact kT1 | exact kT2 | exact kT3 | exact kT4)))
        refine AK.ret ⟨_, rfl, ?_⟩
        rfl
      · have hbn' : ¬ (ByteArray.mk b.toArray) = ByteArray.mk #[] := fun e => hbn (by injection e with e; simpa using e)
        have hqp : quoP (some (a, b)) = (V.null, 10) := by rw [quoP, if_neg hbn]
        refine AK.cond (by rfl) (fun hb => ?_) (fun hb => ?_)
        · (repeat (first | apply kS | apply kB | apply kL | apply kN | (refine kR follows_any [] (by rfl) ?_ ?_; first | exact kT1 | exact kT2 | exact kT3 | exact kT4)))
          refine AK.cond (by rfl) (fun hb => ?_) (fun hb => ?_)
          · (repeat (first | apply kS | apply kB | apply kL | apply kN | (refine kR follows_any [] (by rfl) ?_ ?_; first | exact kT1 | exact kT2 | exact kT3 | exact kT4)))
            refine AK.ret ⟨_, rfl, ?_⟩
            rw [hqp]
            rfl
          · simp at hb
        · exfalso
          simp [hbn'] at hb
  · have hq : wordP s = scalP s := by rw [wordP, if_neg (by rw [show (hasB s ⟨#[34]⟩ || hasB s ⟨#[39]⟩) = false from hb]; decide)]
    rw [hq]
    (repeat (first | apply kS | apply kB | apply kL | apply kN | (refine kR follows_any [] (by rfl) ?_ ?_; first | exact kT1 | exact kT2 | exact kT3 | exact kT4)))
    refine kR follows_any [.v (.tup [.agg [.int .i64 ((scalP s).1).kind, .bool ((scalP s).1).b, .int .i64 ((scalP s).1).n, .str ((scalP s).1).s, .lst .any 6 (rowsV ((scalP s).1).l), .lst .any 7 (rowsM ((scalP s).1).m)], .int .i64 (scalP s).2])] (by rfl) ?_ ?_
    · ((repeat' apply And.intro) <;> first | trivial | omega | (simp only [List.length_nil, List.length_cons]; omega) | (intro hgd; first | (rw [hgd]; rfl) | (refine ⟨?_, by repeat (first | exact trivial | refine ⟨hgd, ?_⟩)⟩; (repeat' apply And.intro) <;> first | trivial | omega | (intro h2; rw [hgd, h2]; rfl) | skip)) | skip)
    (repeat (first | apply kS | apply kB | apply kL | apply kN | (refine kR follows_any [] (by rfl) ?_ ?_; first | exact kT1 | exact kT2 | exact kT3 | exact kT4)))
    refine AK.ret ⟨_, rfl, ?_⟩
    rfl
end Go.Proofs.YtfnpjakekeojoaaGreatDoor
/-
  The value of a word: the document's, walked; it is the program's.
-/
namespace Go.Proofs.YtfnpjakekeojoaaGreatDoor
set_option linter.unusedSimpArgs false
set_option linter.unusedVariables false
open Go.RowKit

/-- what digits come to -/
def dvF (n : Nat) (l : List UInt8) : Nat := l.foldl (fun n c => n * 10 + (c.toNat - 48)) n
theorem dvF_ge (l : List UInt8) : ∀ n, n ≤ dvF n l := by
  induction l with
  | nil => intro n; exact Nat.le_refl _
  | cons c l ih => intro n; have := ih (n * 10 + (c.toNat - 48)); simp only [dvF, List.foldl_cons] at this ⊢; omega
theorem dvF_snoc {l : List UInt8} {k : Nat} {c : UInt8} (h : l[k]? = some c) : dvF 0 (l.take (k + 1)) = dvF 0 (l.take k) * 10 + (c.toNat - 48) := by
  rw [take_snoc h, dvF, List.foldl_append]; rfl
theorem dvF_take_le (l : List UInt8) (k : Nat) : dvF 0 (l.take k) ≤ dvF 0 l := by
  have e : dvF 0 l = dvF (dvF 0 (l.take k)) (l.drop k) := by rw [dvF, dvF, dvF, ← List.foldl_append, List.take_append_drop]
  rw [e]; exact dvF_ge _ _
def dgS (s : ByteArray) : List UInt8 := (cutS s ⟨#[45]⟩).data.toList
/-- digits' value; what is wrong -/
def numR (neg : Bool) (n : Nat) : V × Int := if neg = true then (if n ≤ 9223372036854775808 then (V.int (-(n : Int)), 0) else (V.null, 9)) else if n < 9223372036854775808 then (V.int n, 0) else (V.null, 9)
theorem parse_all : ∀ (l : List UInt8) (acc : Nat), (∀ c ∈ l, okD c = true) → Lib.parseUint10 acc l = if l = [] ∨ dvF acc l < 18446744073709551616 then .ok (dvF acc l) else .range
  | [], acc, _ => by simp [Lib.parseUint10, dvF]
  | c :: l, acc, h => by
    have hc : okD c = true := h c (by simp)
    simp only [okD, Bool.and_eq_true, decide_eq_true_eq] at hc
    have hge := dvF_ge l (acc * 10 + (c.toNat - 48))
    have e : dvF acc (c :: l) = dvF (acc * 10 + (c.toNat - 48)) l := rfl
    rw [Lib.parseUint10, if_pos hc, e]
    by_cases h1 : 1844674407370955162 ≤ acc
    · rw [if_pos h1, if_neg]
      simp; omega
    · rw [if_neg h1]
      by_cases h2 : 18446744073709551616 ≤ acc * 10 + (c.toNat - 48)
      · rw [if_pos h2, if_neg]
        simp; omega
      · rw [if_neg h2, parse_all l _ (fun x hx => h x (by simp [hx]))]
        by_cases hl : l = []
        · subst hl
          rw [if_pos (.inl rfl), if_pos (.inr (by simpa [dvF] using Nat.lt_of_not_le h2))]
        · simp [hl]
theorem atoi_num {s : ByteArray} (hN : numB s = true) : Lib.atoiAll s.data.toList = (if hasB s ⟨#[45]⟩ = true then (if dvF 0 (dgS s) ≤ 9223372036854775808 then .ok (-(dvF 0 (dgS s) : Int)) else .range) else if dvF 0 (dgS s) < 9223372036854775808 then .ok (dvF 0 (dgS s) : Int) else .range) := by
  simp only [numB, Bool.and_eq_true, decide_eq_true_eq] at hN
  obtain ⟨hA, h1⟩ := hN
  have hall : ∀ c ∈ dgS s, okD c = true := by
    unfold allB at hA
    exact List.all_eq_true.1 hA
  have hne : dgS s ≠ [] := by
    intro e
    have : (dgS s).length = (cutS s ⟨#[45]⟩).size := rfl
    rw [e] at this
    simp at this
    omega
  have hP : Lib.parseMag (dgS s) = if dvF 0 (dgS s) < 18446744073709551616 then .ok (dvF 0 (dgS s)) else .range := by
    rw [Lib.parseMag, if_neg hne, parse_all _ _ hall]
    simp [hne]
  cases hs : s.data.toList with
  | nil =>
    exfalso
    have : s.size = 0 := by have : s.data.toList.length = s.size := rfl
                            rw [hs] at this; exact this.symm
    have := cutS_size s ⟨#[45]⟩
    omega
  | cons c r =>
    have hsz : 1 ≤ s.size := by have : s.data.toList.length = s.size := rfl
                                rw [hs] at this; simp at this; omega
    have h0 : s[0] = c := by have := byte_drop (s := s) (k := 0) hsz; rw [List.drop_zero, hs] at this; injection this with h _; exact h.symm
    have hx : s.extract 0 (ByteArray.mk #[45]).size = ⟨#[s[0]]⟩ := ext_one hsz
    have hB : hasB s ⟨#[45]⟩ = decide (c = 45) := by
      rw [hasB, hx, h0, show (ByteArray.mk #[45]).size = 1 from rfl, decide_eq_true hsz, Bool.true_and]
      by_cases hc : c = 45
      · subst hc; simp
      · simp [hc]
    have hd : dgS s = if c = 45 then r else c :: r := by
      rw [dgS, cutS, hB]
      by_cases hc : c = 45
      · simp only [hc, decide_true, if_true]
        rw [show (ByteArray.mk #[45]).size = 1 from rfl, ext_end, hs]
        rfl
      · simp only [hc, decide_false, if_false, Bool.false_eq_true]
        exact hs
    rw [hB, Lib.atoiAll]
    have c43 : ¬ c.toNat = 43 := by
      intro e
      have hc : ¬ c = 45 := fun h => by rw [h] at e; exact absurd e (by decide)
      rw [if_neg hc] at hd
      have := hall c (by rw [hd]; simp)
      simp only [okD, e] at this
      exact absurd this (by decide)
    have e45 : c.toNat = 45 ↔ c = 45 := ⟨fun h => UInt8.toNat_inj.1 h, fun h => by rw [h]; rfl⟩
    have hd2 : (if c.toNat = 43 ∨ c.toNat = 45 then r else c :: r) = dgS s := by
      rw [hd]
      by_cases hc : c = 45
      · rw [if_pos (.inr (e45.2 hc)), if_pos hc]
      · rw [if_neg (fun h => h.elim c43 fun h => hc (e45.1 h)), if_neg hc]
    rw [hd2, hP]
    generalize dvF 0 (dgS s) = n at *
    by_cases hc : c = 45
    · have e := e45.2 hc
      simp only [hc, decide_true, if_true]
      by_cases hn : n ≤ 9223372036854775808
      · rw [if_pos (show n < 18446744073709551616 by omega), if_pos hn]
        have : ¬ 9223372036854775808 < n := by omega
        simp [this]
      · rw [if_neg hn]
        by_cases hn2 : n < 18446744073709551616
        · rw [if_pos hn2]
          have : 9223372036854775808 < n := by omega
          simp [this]
        · rw [if_neg hn2]
    · have e : ¬ c.toNat = 45 := fun h => hc (e45.1 h)
      simp only [hc, decide_false, Bool.false_eq_true, if_false]
      by_cases hn : n < 9223372036854775808
      · rw [if_pos (show n < 18446744073709551616 by omega), if_pos hn]
        have : ¬ 9223372036854775808 ≤ n := by omega
        simp [this, e]
      · rw [if_neg hn]
        by_cases hn2 : n < 18446744073709551616
        · rw [if_pos hn2]
          have : 9223372036854775808 ≤ n := by omega
          simp [this, e]
        · rw [if_neg hn2]
theorem scalP_num {s : ByteArray} (nn : ¬ (s = ⟨#[]⟩ ∨ s = ⟨#[126]⟩ ∨ s = wNull)) (nb : ¬ (s = wTrue ∨ s = wFalse)) (hN : numB s = true) : scalP s = numR (hasB s ⟨#[45]⟩) (dvF 0 (dgS s)) := by
  rw [scalP, if_neg nn, if_neg nb, if_neg (by rw [hN]; decide), atoi_num hN, numR]
  by_cases h : hasB s ⟨#[45]⟩ = true
  · rw [if_pos h, if_pos h]
    by_cases h2 : dvF 0 (dgS s) ≤ 9223372036854775808
    · rw [if_pos h2, if_pos h2]
    · rw [if_neg h2, if_neg h2]
  · rw [if_neg h, if_neg h]
    by_cases h2 : dvF 0 (dgS s) < 9223372036854775808
    · rw [if_pos h2, if_pos h2]
    · rw [if_neg h2, if_neg h2]
end Go.Proofs.YtfnpjakekeojoaaGreatDoor
/-
  The value of a word: the document's function, walked.
-/
namespace Go.Proofs.YtfnpjakekeojoaaGreatDoor
set_option linter.unusedSimpArgs false
set_option linter.unusedVariables false
open Go.RowKit

set_option maxRecDepth 4000 in
theorem refScal_a (s : ByteArray) (hz : s.size ≤ 1000000) : AC Tryz.prog 23 [.str s] (.tup [.agg [.int .i64 ((scalP s).1).kind, .bool ((scalP s).1).b, .int .i64 ((scalP s).1).n, .str ((scalP s).1).s, .lst .any 6 (rowsV ((scalP s).1).l), .lst .any 7 (rowsM ((scalP s).1).m)], .int .i64 (scalP s).2]) := by
  refine AC.enter Tryz.func23 a_ref04_Parse_ok a_ref04_Parse_cb (by rfl) fun E hE => ?_
  show AK _ _ _ [.c b_ref04_Parse] _ _
  rw [b_ref04_Parse]
  (repeat (first | apply kS | apply kB | apply kL | apply kN | (refine kR follows_any [] (by rfl) ?_ ?_; first | exact kT1 | exact kT2 | exact kT3 | exact kT4)))
  refine kR follows_any [] (by rfl) ?_ ?_
  · ((repeat' apply And.intro) <;> first | trivial | omega | (simp only [List.length_nil, List.length_cons]; omega) | (intro hgd; first | (rw [hgd]; rfl) | (refine ⟨?_, by repeat (first | exact trivial | refine ⟨hgd, ?_⟩)⟩; (repeat' apply And.intro) <;> first | trivial | omega | (intro h2; rw [hgd, h2]; rfl) | skip)) | skip)
  refine AK.cond (by rfl) (fun hb => ?_) (fun hb => ?_)
  · have h0 : s = ⟨#[]⟩ ∨ s = ⟨#[126]⟩ ∨ s = wNull := by simpa [or_assoc, wNull] using hb
    have h1 : scalP s = (V.null, 0) := by rw [scalP, if_pos h0]
    (repeat (first | apply kS | apply kB | apply kL | apply kN | (refine kR follows_any [] (by rfl) ?_ ?_; first | exact kT1 | exact kT2 | exact kT3 | exact kT4)))
    refine AK.ret ⟨_, rfl, ?_⟩
    rw [h1]
    rfl
  have nn : ¬ (s = ⟨#[]⟩ ∨ s = ⟨#[126]⟩ ∨ s = wNull) := by
    intro h
    simp only [Bool.or_eq_false_iff, decide_eq_false_iff_not] at hb
    rcases h with h | h | h
    · exact hb.1.1 h
    · exact hb.1.2 h
    · exact hb.2 h
  (repeat (first | apply kS | apply kB | apply kL | apply kN | (refine kR follows_any [] (by rfl) ?_ ?_; first | exact kT1 | exact kT2 | exact kT3 | exact kT4)))
  refine kR follows_any [] (by rfl) ?_ ?_
  · ((repeat' apply And.intro) <;> first | trivial | omega | (simp only [List.length_nil, List.length_cons]; omega) | (intro hgd; first | (rw [hgd]; rfl) | (refine ⟨?_, by repeat (first | exact trivial | refine ⟨hgd, ?_⟩)⟩; (repeat' apply And.intro) <;> first | trivial | omega | (intro h2; rw [hgd, h2]; rfl) | skip)) | skip)
  refine AK.cond (by rfl) (fun hb => ?_) (fun hb => ?_)
  · have h0 : s = wTrue ∨ s = wFalse := by simpa [wTrue, wFalse] using hb
    have h1 : scalP s = (V.bool (decide (s = wTrue)), 0) := by rw [scalP, if_neg nn, if_pos h0]
    (repeat (first | apply kS | apply kB | apply kL | apply kN | (refine kR follows_any [] (by rfl) ?_ ?_; first | exact kT1 | exact kT2 | exact kT3 | exact kT4)))
    refine AK.ret ⟨_, rfl, ?_⟩
    rw [h1]
    rfl
  have nb : ¬ (s = wTrue ∨ s = wFalse) := by
    intro h
    simp only [Bool.or_eq_false_iff, decide_eq_false_iff_not] at hb
    rcases h with h | h
    · exact hb.1 h
    · exact hb.2 h
  have hsz : 1 ≤ s.size := by have := mt (sz0 s).2 (fun h => nn (.inl h)); omega
  have hB : hasB s ⟨#[45]⟩ = decide (s[0] = 45) := by
    have hx : s.extract 0 (ByteArray.mk #[45]).size = ⟨#[s[0]]⟩ := ext_one hsz
    rw [hasB, hx, show (ByteArray.mk #[45]).size = 1 from rfl, decide_eq_true hsz, Bool.true_and]
    by_cases hc : s[0] = 45
    · rw [hc]; simp
    · simp [hc]
  have hcs : cutS s ⟨#[45]⟩ = if s[0] = 45 then s.extract 1 s.size else s := by
    rw [cutS, hB]
    by_cases hc : s[0] = 45
    · simp only [hc, decide_true, if_true]; rfl
    · simp only [hc, decide_false, if_false, Bool.false_eq_true]
  have hsc : numB s = true → scalP s = numR (hasB s ⟨#[45]⟩) (dvF 0 (dgS s)) := scalP_num nn nb
  have hst : numB s = false → scalP s = (V.str s, 0) := fun h => by rw [scalP, if_neg nn, if_neg nb, if_pos h]
  have hnb : numB s = (allB okD (cutS s ⟨#[45]⟩) && decide (1 ≤ (cutS s ⟨#[45]⟩).size)) := rfl
  have hdg : dgS s = (cutS s ⟨#[45]⟩).data.toList := rfl
  have hcz := cutS_size s ⟨#[45]⟩
  generalize hR : scalP s = R at *
  rw [hB] at hsc
  have hd0 : s[0] = 45 → cutS s ⟨#[45]⟩ = s.extract 1 s.size := fun h => by rw [hcs, if_pos h]
  have hd1 : ¬ s[0] = 45 → cutS s ⟨#[45]⟩ = s := fun h => by rw [hcs, if_neg h]
  clear hcs hB
  generalize hdd : cutS s ⟨#[45]⟩ = d at *
  rw [hdg] at hsc
  clear hdg
  (repeat (first | apply kS | apply kB | apply kL | apply kN | (refine kR follows_any [] (by rfl) ?_ ?_; first | exact kT1 | exact kT2 | exact kT3 | exact kT4)))
  refine kR follows_any [] (by rfl) ?_ ?_
  · ((repeat' apply And.intro) <;> first | trivial | omega | (simp only [List.length_nil, List.length_cons]; omega) | (intro hgd; first | (rw [hgd]; rfl) | (refine ⟨?_, by repeat (first | exact trivial | refine ⟨hgd, ?_⟩)⟩; (repeat' apply And.intro) <;> first | trivial | omega | (intro h2; rw [hgd, h2]; rfl) | skip)) | skip)
  rw [show s.data.getD (0 : Int).toNat 0 = s[0] from byte_at hsz]
  refine AK.cond (by rfl) (fun hb => ?_) (fun hb => ?_)
  have e : s[0] = 45 := UInt8.toNat_inj.1 (by have : ((s[0].toNat : Nat) : Int) = 45 := by simpa using hb
                                              show s[0].toNat = 45; omega)
  obtain ⟨neg, hneg⟩ : ∃ b : Bool, b = true := ⟨true, rfl⟩
  have hn2 : decide (s[0] = 45) = neg := by rw [hneg]; exact decide_eq_true e
  have hde := hd0 e
  (repeat (first | apply kS | apply kB | apply kL | apply kN | (refine kR follows_any [] (by rfl) ?_ ?_; first | exact kT1 | exact kT2 | exact kT3 | exact kT4)))
  refine kR follows_any [] (by rfl) ?_ ?_
  · ((repeat' apply And.intro) <;> first | trivial | omega | (simp only [List.length_nil, List.length_cons]; omega) | (intro hgd; first | (rw [hgd]; rfl) | (refine ⟨?_, by repeat (first | exact trivial | refine ⟨hgd, ?_⟩)⟩; (repeat' apply And.intro) <;> first | trivial | omega | (intro h2; rw [hgd, h2]; rfl) | skip)) | skip)
  refine AK.reg follows_any (rs := []) (by rfl) (by (repeat (first | exact trivial | exact rfl | refine ⟨trivial, ?_⟩ | refine ⟨rfl, ?_⟩))) ?_
  refine AK.weak (Weak.intro (L := [(0, .str s), (2, .ptr 2 0), (4, .str d), (5, .bool neg)]) (BL := [(2, [.int .i64 0, .bool false, .int .i64 0, .str ⟨#[]⟩, .lst .nil 6 [], .lst .nil 7 []], false)]) ⟨⟨_, rfl, .refl _⟩, ⟨_, rfl, .refl _⟩, ⟨_, rfl, .of_eq (congrArg AV.str (by rw [hde]; rfl))⟩, ⟨_, rfl, .of_eq (congrArg AV.bool (by rw [hneg]))⟩, trivial⟩ ⟨⟨_, rfl, leL_refl _⟩, trivial⟩ rfl rfl) ?_
  rotate_left 1
  have e : ¬ s[0] = 45 := fun e => by rw [e] at hb; cases hb
  obtain ⟨neg, hneg⟩ : ∃ b : Bool, b = false := ⟨false, rfl⟩
  have hn2 : decide (s[0] = 45) = neg := by rw [hneg]; exact decide_eq_false e
  have hde := hd1 e
  apply AK.skip
  refine AK.weak (Weak.intro (L := [(0, .str s), (2, .ptr 2 0), (4, .str d), (5, .bool neg)]) (BL := [(2, [.int .i64 0, .bool false, .int .i64 0, .str ⟨#[]⟩, .lst .nil 6 [], .lst .nil 7 []], false)]) ⟨⟨_, rfl, .refl _⟩, ⟨_, rfl, .refl _⟩, ⟨_, rfl, .of_eq (congrArg AV.str (by rw [hde]))⟩, ⟨_, rfl, .of_eq (congrArg AV.bool (by rw [hneg]))⟩, trivial⟩ ⟨⟨_, rfl, leL_refl _⟩, trivial⟩ rfl rfl) ?_
  all_goals
    rw [hn2] at hsc
    clear hde hd0 hd1 e hneg hn2 hb
    (repeat (first | apply kS | apply kB | apply kL | apply kN | (refine kR follows_any [] (by rfl) ?_ ?_; first | exact kT1 | exact kT2 | exact kT3 | exact kT4)))
    refine AK.cond (by rfl) (fun hb => ?_) (fun hb => ?_)
    · have hz0 : d.size = 0 := by simpa using hb
      have hN : numB s = false := by rw [hnb, hz0]; simp
      have h1 := hst hN
      (repeat (first | apply kS | apply kB | apply kL | apply kN | (refine kR follows_any [] (by rfl) ?_ ?_; first | exact kT1 | exact kT2 | exact kT3 | exact kT4)))
      refine AK.ret ⟨_, rfl, ?_⟩
      rw [h1]
      rfl
    have hz1 : 1 ≤ d.size := by
      have : ¬ d.size = 0 := by simpa using hb
      omega
    (repeat (first | apply kS | apply kB | apply kL | apply kN | (refine kR follows_any [] (by rfl) ?_ ?_; first | exact kT1 | exact kT2 | exact kT3 | exact kT4)))
    refine AK.loopI (fun k : Nat => (frOf [(0, .str s), (2, .ptr 2 0), (4, .str d), (5, .bool neg), (6, .int .i64 k)], ⟨boxOf [(2, [.int .i64 0, .bool false, .int .i64 0, .str ⟨#[]⟩, .lst .nil 6 [], .lst .nil 7 []], false)], fun _ => 0⟩)) (fun k => k ≤ d.size ∧ allTo okD d k) (fun k => d.size - k) 0 ⟨by omega, allTo_zero _ _⟩ (Weak.intro ⟨⟨_, rfl, .refl _⟩, ⟨_, rfl, .refl _⟩, ⟨_, rfl, .refl _⟩, ⟨_, rfl, .refl _⟩, ⟨_, rfl, .refl _⟩, trivial⟩ ⟨⟨_, rfl, leL_refl _⟩, trivial⟩ rfl rfl) fun k ⟨hk, hno⟩ => ?_
    (repeat (first | apply kS | apply kB | apply kL | apply kN | (refine kR follows_any [] (by rfl) ?_ ?_; first | exact kT1 | exact kT2 | exact kT3 | exact kT4)))
    refine AK.cond (by rfl) (fun hb => ?_) (fun hb => ?_)
    · have hlt : k < d.size := by simpa using hb
      (repeat (first | apply kS | apply kB | apply kL | apply kN | (refine kR follows_any [] (by rfl) ?_ ?_; first | exact kT1 | exact kT2 | exact kT3 | exact kT4)))
      refine kR follows_any [] (by rfl) ?_ ?_
      · ((repeat' apply And.intro) <;> first | trivial | omega | (simp only [List.length_nil, List.length_cons]; omega) | (intro hgd; first | (rw [hgd]; rfl) | (refine ⟨?_, by repeat (first | exact trivial | refine ⟨hgd, ?_⟩)⟩; (repeat' apply And.intro) <;> first | trivial | omega | (intro h2; rw [hgd, h2]; rfl) | skip)) | skip)
      rw [show d.data.getD (k : Int).toNat 0 = d[k] from byte_at hlt]
      refine AK.cond (by rfl) (fun hb => ?_) (fun hb => ?_)
      · have hf : okD d[k] = false := by
          simp only [Bool.or_eq_true, decide_eq_true_eq] at hb
          simp only [okD, Bool.and_eq_false_iff, decide_eq_false_iff_not]
          omega
        have hN : numB s = false := by rw [hnb, allB_false hlt hf]; rfl
        have h1 := hst hN
        (repeat (first | apply kS | apply kB | apply kL | apply kN | (refine kR follows_any [] (by rfl) ?_ ?_; first | exact kT1 | exact kT2 | exact kT3 | exact kT4)))
        refine AK.ret ⟨_, rfl, ?_⟩
        rw [h1]
        rfl
      · have ht : okD d[k] = true := by
          simp only [Bool.or_eq_false_iff, decide_eq_false_iff_not] at hb
          simp only [okD, Bool.and_eq_true, decide_eq_true_eq]
          omega
        (repeat (first | apply kS | apply kB | apply kL | apply kN | (refine kR follows_any [] (by rfl) ?_ ?_; first | exact kT1 | exact kT2 | exact kT3 | exact kT4)))
        exact AK.lp ⟨k + 1, ⟨by omega, allTo_succ hno hlt ht⟩, Weak.intro ⟨⟨_, rfl, .refl _⟩, ⟨_, rfl, .refl _⟩, ⟨_, rfl, .refl _⟩, ⟨_, rfl, .refl _⟩, ⟨_, rfl, .of_eq (congrArg _ (by first | omega | (rw [wrap_in (by omega) (by omega)]; omega)))⟩, trivial⟩ ⟨⟨_, rfl, leL_refl _⟩, trivial⟩ rfl rfl, by omega⟩
    · have hlt : k = d.size := by have : d.size ≤ k := by simpa using hb
                                  omega
      subst hlt
      refine AK.exit rfl ?_
      have hN : numB s = true := by rw [hnb, allB_true hno, decide_eq_true hz1]; rfl
      have h1 := hsc hN
      clear hst hsc hk
      (repeat (first | apply kS | apply kB | apply kL | apply kN | (refine kR follows_any [] (by rfl) ?_ ?_; first | exact kT1 | exact kT2 | exact kT3 | exact kT4)))
      refine AK.loopI (fun k : Nat => (frOf [(0, .str s), (2, .ptr 2 0), (4, .str d), (5, .bool neg), (7, .int .i64 (-(dvF 0 (d.data.toList.take k) : Int))), (8, .int .i64 k)], ⟨boxOf [(2, [.int .i64 0, .bool false, .int .i64 0, .str ⟨#[]⟩, .lst .nil 6 [], .lst .nil 7 []], false)], fun _ => 0⟩)) (fun k => k ≤ d.size ∧ dvF 0 (d.data.toList.take k) ≤ 9223372036854775808) (fun k => d.size - k) 0 ⟨by omega, by simp [dvF]⟩ (Weak.intro ⟨⟨_, rfl, .refl _⟩, ⟨_, rfl, .refl _⟩, ⟨_, rfl, .refl _⟩, ⟨_, rfl, .refl _⟩, ⟨_, rfl, .of_eq (congrArg (AV.int _) (by simp [dvF]))⟩, ⟨_, rfl, .refl _⟩, trivial⟩ ⟨⟨_, rfl, leL_refl _⟩, trivial⟩ rfl rfl) fun k ⟨hk, hv⟩ => ?_
      (repeat (first | apply kS | apply kB | apply kL | apply kN | (refine kR follows_any [] (by rfl) ?_ ?_; first | exact kT1 | exact kT2 | exact kT3 | exact kT4)))
      refine AK.cond (by rfl) (fun hb => ?_) (fun hb => ?_)
      · have hlt : k < d.size := by simpa using hb
        have hd := hno k hlt hlt
        simp only [okD, Bool.and_eq_true, decide_eq_true_eq] at hd
        have hst := dvF_snoc (l := d.data.toList) (k := k) (c := d[k]) (by rw [List.getElem?_eq_getElem (show k < d.data.toList.length from hlt)]; rfl)
        have hle := dvF_take_le d.data.toList (k + 1)
        (repeat (first | apply kS | apply kB | apply kL | apply kN | (refine kR follows_any [] (by rfl) ?_ ?_; first | exact kT1 | exact kT2 | exact kT3 | exact kT4)))
        refine kR follows_any [] (by rfl) ?_ ?_
        · ((repeat' apply And.intro) <;> first | trivial | omega | (simp only [List.length_nil, List.length_cons]; omega) | (intro hgd; first | (rw [hgd]; rfl) | (refine ⟨?_, by repeat (first | exact trivial | refine ⟨hgd, ?_⟩)⟩; (repeat' apply And.intro) <;> first | trivial | omega | (intro h2; rw [hgd, h2]; rfl) | skip)) | skip)
        rw [show d.data.getD (k : Int).toNat 0 = d[k] from byte_at hlt]
        (repeat (first | apply kS | apply kB | apply kL | apply kN | (refine kR follows_any [] (by rfl) ?_ ?_; first | exact kT1 | exact kT2 | exact kT3 | exact kT4)))
        have hkw : IntKind.i64.wrap (IntKind.u8.wrap ((d[k].toNat : Int) - 48)) = ((d[k].toNat - 48 : Nat) : Int) := by
          have h1 : IntKind.u8.wrap ((d[k].toNat : Int) - 48) = ((d[k].toNat - 48 : Nat) : Int) := by
            have : ((d[k].toNat : Int) - 48) = ((d[k].toNat - 48 : Nat) : Int) := by omega
            rw [this]
            unfold IntKind.wrap
            simp only [IntKind.signed, IntKind.bits]
            simp
            omega
          rw [h1, wrap_in (by omega) (by omega)]
        refine kR follows_any [] (by rfl) ?_ ?_
        · ((repeat' apply And.intro) <;> first | trivial | omega | (simp only [List.length_nil, List.length_cons]; omega) | (intro hgd; first | (rw [hgd]; rfl) | (refine ⟨?_, by repeat (first | exact trivial | refine ⟨hgd, ?_⟩)⟩; (repeat' apply And.intro) <;> first | trivial | omega | (intro h2; rw [hgd, h2]; rfl) | skip)) | skip)
        generalize hP : dvF 0 (d.data.toList.take k) = P at *
        generalize hD : d[k].toNat - 48 = D at *
        have hD9 : D ≤ 9 := by omega
        refine AK.cond (by rfl) (fun hb => ?_) (fun hb => ?_)
        · have hbig : 9223372036854775808 < dvF 0 d.data.toList := by
            rw [hkw] at hb
            simp only [Bool.or_eq_true, Bool.and_eq_true, decide_eq_true_eq] at hb
            omega
          (repeat (first | apply kS | apply kB | apply kL | apply kN | (refine kR follows_any [] (by rfl) ?_ ?_; first | exact kT1 | exact kT2 | exact kT3 | exact kT4)))
          refine AK.ret ⟨_, rfl, ?_⟩
          rw [h1, numR]
          cases neg with
          | false => rw [if_neg (by decide), if_neg (by omega)]; rfl
          | true => rw [if_pos rfl, if_neg (by omega)]; rfl
        · have hsm : P * 10 + D ≤ 9223372036854775808 := by
            rw [hkw] at hb
            simp only [Bool.or_eq_false_iff, Bool.and_eq_false_iff, decide_eq_false_iff_not] at hb
            omega
          (repeat (first | apply kS | apply kB | apply kL | apply kN | (refine kR follows_any [] (by rfl) ?_ ?_; first | exact kT1 | exact kT2 | exact kT3 | exact kT4)))
          refine AK.lp ⟨k + 1, ⟨by omega, by omega⟩, Weak.intro ⟨⟨_, rfl, .refl _⟩, ⟨_, rfl, .refl _⟩, ⟨_, rfl, .refl _⟩, ⟨_, rfl, .refl _⟩, ⟨_, rfl, .of_eq (congrArg (AV.int _) ?_)⟩, ⟨_, rfl, .of_eq (congrArg _ (by first | omega | (rw [wrap_in (by omega) (by omega)]; omega)))⟩, trivial⟩ ⟨⟨_, rfl, leL_refl _⟩, trivial⟩ rfl rfl, by omega⟩
          rw [hst, hkw, wrap_in (n := -(P : Int) * 10) (by omega) (by omega), wrap_in (by omega) (by omega)]
          omega
      · have hlt : k = d.size := by have : d.size ≤ k := by simpa using hb
                                    omega
        subst hlt
        rw [show d.data.toList.take d.size = d.data.toList from List.take_of_length_le (Nat.le_refl _)] at hv ⊢
        refine AK.exit rfl ?_
        (repeat (first | apply kS | apply kB | apply kL | apply kN | (refine kR follows_any [] (by rfl) ?_ ?_; first | exact kT1 | exact kT2 | exact kT3 | exact kT4)))
        refine AK.cond (by rfl) (fun hb => ?_) (fun hb => ?_)
        · have hneg : neg = true := hb
          (repeat (first | apply kS | apply kB | apply kL | apply kN | (refine kR follows_any [] (by rfl) ?_ ?_; first | exact kT1 | exact kT2 | exact kT3 | exact kT4)))
          refine AK.ret ⟨_, rfl, ?_⟩
          rw [h1, numR, if_pos hneg, if_pos hv]
          rfl
        · have hneg : neg = false := hb
          (repeat (first | apply kS | apply kB | apply kL | apply kN | (refine kR follows_any [] (by rfl) ?_ ?_; first | exact kT1 | exact kT2 | exact kT3 | exact kT4)))
          refine AK.cond (by rfl) (fun hb => ?_) (fun hb => ?_)
          · have hbig : ¬ dvF 0 d.data.toList < 9223372036854775808 := by
              have : -(dvF 0 d.data.toList : Int) = -9223372036854775808 := by simpa using hb
              omega
            (repeat (first | apply kS | apply kB | apply kL | apply kN | (refine kR follows_any [] (by rfl) ?_ ?_; first | exact kT1 | exact kT2 | exact kT3 | exact kT4)))
            refine AK.ret ⟨_, rfl, ?_⟩
            rw [h1, numR, hneg, if_neg hbig]
            rfl
          · have hsm : dvF 0 d.data.toList < 9223372036854775808 := by
              have : ¬ -(dvF 0 d.data.toList : Int) = -9223372036854775808 := by simpa using hb
              omega
            (repeat (first | apply kS | apply kB | apply kL | apply kN | (refine kR follows_any [] (by rfl) ?_ ?_; first | exact kT1 | exact kT2 | exact kT3 | exact kT4)))
            refine AK.ret ⟨_, rfl, ?_⟩
            rw [h1, numR, hneg, if_pos hsm, wrap_in (by omega) (by omega), Int.zero_sub, Int.neg_neg]
            rfl
end Go.Proofs.YtfnpjakekeojoaaGreatDoor
