/-
  scalar.Quote's contract; a text printed as a word: the program's, walked.
-/
import Derived.Test.YtpcddcfpbohogaaDoorBar
import Derived.Test.YtpcddcfpbohogaaDoorQu2
namespace Go.Proofs.YtpcddcfpbohogaaDoor
set_option linter.unusedSimpArgs false
set_option linter.unusedVariables false
open Go.RowKit

def wordB (s : ByteArray) : ByteArray := if bareB s then s else quoteB s
theorem wordB_size (s : ByteArray) : (wordB s).size ≤ 2 + 2 * s.size := by
  unfold wordB
  split
  · omega
  · have := quoteP_size s s.size
    have z : (ByteArray.mk #[34]).size = 1 := rfl
    rw [quoteB, ByteArray.size_append]; omega
theorem quote_a (s : ByteArray) (hs : s.size ≤ 1000000) : AC Tryd.prog 75 [.str s] (.str (quoteB s)) := by
  refine ⟨by kernel_rfl, fun σ w vs hh hr hg => ?_⟩
  obtain ⟨v1, rfl⟩ := List.length_eq_one_iff.1 hr.1
  have h1 : Rel1 σ v1 (.str s) := hr.2 0 v1 _ rfl rfl
  cases h1
  refine (quote_any s hs w).mono ?_
  rintro e w' ⟨rfl, hb⟩
  exact ⟨σ, _, rfl, Ext.refl _ _, fun b q v hv => (hb.cell (p := ⟨b, q, none⟩) (World.block_lt_of_cell? w _ (hh _ _ _ hv))).trans (hh _ _ _ hv), hb, .str _⟩
theorem str_a (s : ByteArray) : AC Tryd.prog 34 [.str s] (.agg [.int .i64 3, .bool false, .int .i64 0, .str s, .lst .any 6 [], .lst .any 7 []]) := by
  refine AC.enter Tryd.func34 a_tree_Str_ok a_tree_Str_cb (by rfl) fun E hE => ?_
  show AK _ _ _ [.c b_tree_Str] _ _
  rw [b_tree_Str]
  (repeat (first | apply kS | apply kB | apply kL | apply kN | (refine kR follows_any [] (by rfl) ?_ ?_; first | exact kT1 | exact kT2 | exact kT3 | exact kT4)))
  refine AK.ret ⟨_, rfl, ?_⟩
  rfl
theorem print_a (s : ByteArray) (hs : s.size ≤ 1000000) : AC Tryd.prog 54 [.agg [.int .i64 3, .bool false, .int .i64 0, .str s, .lst .any 6 [], .lst .any 7 []]] (.str (wordB s)) := by
  refine AC.enter Tryd.func54 a_scalar_Print_ok a_scalar_Print_cb (by rfl) fun E hE => ?_
  show AK _ _ _ [.c b_scalar_Print] _ _
  rw [b_scalar_Print]
  (repeat (first | apply kS | apply kB | apply kL | apply kN | (refine kR follows_any [] (by rfl) ?_ ?_; first | exact kT1 | exact kT2 | exact kT3 | exact kT4)))
  refine AK.cond (by rfl) (fun hb => ?_) (fun hb => ?_)
  · cases hb
  (repeat (first | apply kS | apply kB | apply kL | apply kN | (refine kR follows_any [] (by rfl) ?_ ?_; first | exact kT1 | exact kT2 | exact kT3 | exact kT4)))
  refine AK.cond (by rfl) (fun hb => ?_) (fun hb => ?_)
  · cases hb
  (repeat (first | apply kS | apply kB | apply kL | apply kN | (refine kR follows_any [] (by rfl) ?_ ?_; first | exact kT1 | exact kT2 | exact kT3 | exact kT4)))
  refine AK.cond (by rfl) (fun hb => ?_) (fun hb => ?_)
  · (repeat (first | apply kS | apply kB | apply kL | apply kN | (refine kR follows_any [] (by rfl) ?_ ?_; first | exact kT1 | exact kT2 | exact kT3 | exact kT4)))
    refine kR follows_any [.v (.bool (bareB s))] (by rfl) ?_ ?_
    · ((repeat' apply And.intro) <;> first | trivial | omega | (simp only [List.length_nil, List.length_cons]; omega) | (intro hgd; first | (rw [hgd]; rfl) | (refine ⟨?_, by repeat (first | exact trivial | refine ⟨hgd, ?_⟩)⟩; (repeat' apply And.intro) <;> first | trivial | omega | (intro h2; rw [hgd, h2]; rfl) | skip)) | skip)
      · exact bare_a s (by omega)
    refine AK.cond (by rfl) (fun hb => ?_) (fun hb => ?_)
    · (repeat (first | apply kS | apply kB | apply kL | apply kN | (refine kR follows_any [] (by rfl) ?_ ?_; first | exact kT1 | exact kT2 | exact kT3 | exact kT4)))
      refine AK.ret ⟨_, rfl, ?_⟩
      rw [wordB, if_pos hb]
      rfl
    · (repeat (first | apply kS | apply kB | apply kL | apply kN | (refine kR follows_any [] (by rfl) ?_ ?_; first | exact kT1 | exact kT2 | exact kT3 | exact kT4)))
      refine kR follows_any [.v (.str (quoteB s))] (by rfl) ?_ ?_
      · ((repeat' apply And.intro) <;> first | trivial | omega | (simp only [List.length_nil, List.length_cons]; omega) | (intro hgd; first | (rw [hgd]; rfl) | (refine ⟨?_, by repeat (first | exact trivial | refine ⟨hgd, ?_⟩)⟩; (repeat' apply And.intro) <;> first | trivial | omega | (intro h2; rw [hgd, h2]; rfl) | skip)) | skip)
        · exact quote_a s hs
      (repeat (first | apply kS | apply kB | apply kL | apply kN | (refine kR follows_any [] (by rfl) ?_ ?_; first | exact kT1 | exact kT2 | exact kT3 | exact kT4)))
      refine AK.ret ⟨_, rfl, ?_⟩
      rw [wordB, if_neg (by rw [hb]; simp)]
      rfl
  · cases hb
/-- the same over worlds -/
theorem str_any (s : ByteArray) (w : World) (hg : GW w) : Calls Tryd.prog 34 #[.string s] w fun e w' => (∃ (A B : Option Addr) (c d : Nat), e = .returned (.agg #[.int .i64 3, .bool false, .int .i64 0, .string s, .slice A 0 c, .slice B 0 d])) ∧ Below w.heap.size w w' := by
  refine ((str_a s).run (fun _ _ => none) w [.string s] (fun _ _ _ h => by cases h) ⟨rfl, fun j v a hv ha => ?_⟩ hg).mono ?_
  · rcases j with _ | j <;> simp at hv ha
    subst hv ha
    exact Rel1.str s
  · rintro e w' ⟨σ', v, rfl, _, _, hb, hr⟩
    have hr : RelP σ' v (.agg [.int .i64 3, .bool false, .int .i64 0, .str s, .lst .any 6 [], .lst .any 7 []]) := hr
    obtain ⟨vs, rfl, hl⟩ := hr
    have h6 : vs.length = 6 := hl.1
    obtain ⟨v0, v1, v2, v3, v4, v5, rfl⟩ : ∃ a b c d e f, vs = [a, b, c, d, e, f] := by
      rcases vs with _ | ⟨a, _ | ⟨b, _ | ⟨c, _ | ⟨d, _ | ⟨e, _ | ⟨f, _ | ⟨g, l⟩⟩⟩⟩⟩⟩⟩ <;> simp at h6
      exact ⟨a, b, c, d, e, f, rfl⟩
    have r0 := hl.2 0 v0 _ rfl rfl
    have r1 := hl.2 1 v1 _ rfl rfl
    have r2 := hl.2 2 v2 _ rfl rfl
    have r3 := hl.2 3 v3 _ rfl rfl
    have r4 := hl.2 4 v4 _ rfl rfl
    have r5 := hl.2 5 v5 _ rfl rfl
    cases r0; cases r1; cases r2; cases r3
    rcases r4 with _ | _ | _ | _ | ⟨_, _, _, A, n, c, _, _, _, hn⟩
    rcases r5 with _ | _ | _ | _ | ⟨_, _, _, B, m, d, _, _, _, hm⟩
    simp only [List.length_nil] at hn hm
    subst hn hm
    exact ⟨⟨A, B, c, d, rfl⟩, hb⟩
theorem rel_empty (σ : Sg) (A : Option Addr) (c esz : Nat) : Rel1 σ (.slice A 0 c) (.lst .any esz []) := .lst .any esz [] A 0 c 0 0 (fun _ _ => undef) rfl (Nat.zero_le _) (fun h => absurd h (by decide)) (fun i c h => by simp at h) (fun i j h => by omega) (fun i j c a h => by simp at h) trivial
theorem print_any (s : ByteArray) (hs : s.size ≤ 1000000) (A B : Option Addr) (c d : Nat) (w : World) (hg : GW w) : Calls Tryd.prog 54 #[.agg #[.int .i64 3, .bool false, .int .i64 0, .string s, .slice A 0 c, .slice B 0 d]] w fun e w' => e = .returned (.string (wordB s)) ∧ Below w.heap.size w w' := by
  refine ((print_a s hs).run (fun _ _ => none) w [.agg #[.int .i64 3, .bool false, .int .i64 0, .string s, .slice A 0 c, .slice B 0 d]] (fun _ _ _ h => by cases h) ⟨rfl, fun j v a hv ha => ?_⟩ hg).mono ?_
  · rcases j with _ | j <;> simp at hv ha
    subst hv ha
    exact ⟨_, rfl, .cons (.int _ _) (.cons (.bool _) (.cons (.int _ _) (.cons (.str _) (.cons (rel_empty _ _ _ _) (.cons (rel_empty _ _ _ _) .nil)))))⟩
  · rintro e w' ⟨σ', v, rfl, _, _, hb, hr⟩
    have hr : Rel1 σ' v (.str (wordB s)) := hr
    cases hr
    exact ⟨rfl, hb⟩
end Go.Proofs.YtpcddcfpbohogaaDoor
