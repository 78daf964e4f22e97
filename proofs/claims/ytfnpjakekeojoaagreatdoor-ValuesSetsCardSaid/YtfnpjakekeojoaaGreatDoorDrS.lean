/-
  The document's Same, walked.
-/
import Derived.Test.YtfnpjakekeojoaaGreatDoorDrT
namespace Go.Proofs.YtfnpjakekeojoaaGreatDoor
set_option linter.unusedSimpArgs false
set_option linter.unusedVariables false
open Go.RowKit

theorem same_first {a b : V} : (!decide (a.kind = b.kind) || (a.b != b.b) || !decide (a.n = b.n) || !decide (a.s = b.s) || !decide (((rowsV a.l).length : Int) = (rowsV b.l).length) || !decide (((rowsM a.m).length : Int) = (rowsM b.m).length)) = true → a ≠ b := by
  rintro h rfl
  simp at h
theorem same_rest {a b : V} (h : (!decide (a.kind = b.kind) || (a.b != b.b) || !decide (a.n = b.n) || !decide (a.s = b.s) || !decide (((rowsV a.l).length : Int) = (rowsV b.l).length) || !decide (((rowsM a.m).length : Int) = (rowsM b.m).length)) = false) :
    a.kind = b.kind ∧ a.b = b.b ∧ a.n = b.n ∧ a.s = b.s ∧ a.l.length = b.l.length ∧ a.m.length = b.m.length := by
  simp only [rowsV_len, rowsM_len, Bool.or_eq_false_iff, Bool.not_eq_false', decide_eq_true_eq, bne_eq_false_iff_eq] at h
  obtain ⟨⟨⟨⟨⟨h1, h2⟩, h3⟩, h4⟩, h5⟩, h6⟩ := h
  exact ⟨h1, h2, h3, h4, by omega, by omega⟩
theorem same_no {a b : V} (h : a ≠ b) : AV.bool false = .bool (a.sameB b) := by rw [V.sameB_false.2 h]
theorem take_more {α : Type} {l m : List α} {k : Nat} {x y : α} (h : l.take k = m.take k) (hx : l[k]? = some x) (hy : m[k]? = some y) (e : x = y) : l.take (k + 1) = m.take (k + 1) := by rw [take_snoc hx, take_snoc hy, h, e]

set_option maxRecDepth 4000 in
theorem refSame_a (n : Nat) : ∀ a b : V, a.size ≤ n → a.size ≤ 2000000000000 → AC Tryz.prog 12 [.agg [.int .i64 (a).kind, .bool (a).b, .int .i64 (a).n, .str (a).s, .lst .any 6 (rowsV (a).l), .lst .any 7 (rowsM (a).m)], .agg [.int .i64 (b).kind, .bool (b).b, .int .i64 (b).n, .str (b).s, .lst .any 6 (rowsV (b).l), .lst .any 7 (rowsM (b).m)]] (.bool (a.sameB b)) := by
  induction n with
  | zero => intro v _ h; have := v.size_pos; omega
  | succ n ih =>
    intro a b hn hsz
    have hve := a.size_eq
    have hll := len_le_sizeL a.l
    have hlm := len_le_sizeM a.m
    refine AC.enter Tryz.func12 a_ref01_Same_ok a_ref01_Same_cb (by rfl) fun E hE => ?_
    show AK _ _ _ [.c b_ref01_Same] _ _
    rw [b_ref01_Same]
    (repeat (first | apply kS | apply kB | apply kL | apply kN | (refine kR follows_any [] (by rfl) ?_ ?_; first | exact kT1 | exact kT2 | exact kT3 | exact kT4)))
    refine kR follows_any [] (by rfl) ?_ ?_
    · ((repeat' apply And.intro) <;> first | trivial | omega | (simp only [List.length_nil, List.length_cons]; omega) | (intro hgd; first | (rw [hgd]; rfl) | (refine ⟨?_, by repeat (first | exact trivial | refine ⟨hgd, ?_⟩)⟩; (repeat' apply And.intro) <;> first | trivial | omega | (intro h2; rw [hgd, h2]; rfl) | skip)) | skip)
    refine AK.cond (by rfl) (fun hb => ?_) (fun hb => ?_)
    · (repeat (first | apply kS | apply kB | apply kL | apply kN | (refine kR follows_any [] (by rfl) ?_ ?_; first | exact kT1 | exact kT2 | exact kT3 | exact kT4)))
      refine AK.ret ⟨_, rfl, ?_⟩
      exact same_no (same_first hb)
    obtain ⟨e1, e2, e3, e4, e5, e6⟩ := same_rest hb
    clear hb
    (repeat (first | apply kS | apply kB | apply kL | apply kN | (refine kR follows_any [] (by rfl) ?_ ?_; first | exact kT1 | exact kT2 | exact kT3 | exact kT4)))
    refine AK.loopI (fun k : Nat => (frOf [(2, .ptr 2 0), (3, .ptr 3 0), (5, .int .i64 k)], ⟨boxOf [(2, [.int .i64 (a).kind, .bool (a).b, .int .i64 (a).n, .str (a).s, .lst .any 6 (rowsV (a).l), .lst .any 7 (rowsM (a).m)], false), (3, [.int .i64 (b).kind, .bool (b).b, .int .i64 (b).n, .str (b).s, .lst .any 6 (rowsV (b).l), .lst .any 7 (rowsM (b).m)], false)], fun _ => 0⟩)) (fun k => k ≤ a.l.length ∧ a.l.take k = b.l.take k) (fun k => a.l.length - k) 0 ⟨by omega, rfl⟩ (Weak.intro ⟨⟨_, rfl, .refl _⟩, ⟨_, rfl, .refl _⟩, ⟨_, rfl, .refl _⟩, trivial⟩ ⟨⟨_, rfl, leL_refl _⟩, ⟨_, rfl, leL_refl _⟩, trivial⟩ rfl rfl) fun k ⟨hk, hr⟩ => ?_
    (repeat (first | apply kS | apply kB | apply kL | apply kN | (refine kR follows_any [] (by rfl) ?_ ?_; first | exact kT1 | exact kT2 | exact kT3 | exact kT4)))
    refine AK.cond (by rfl) (fun hb => ?_) (fun hb => ?_)
    · have hlt : k < a.l.length := by simpa [rowsV_len] using hb
      obtain ⟨x, hg⟩ : ∃ x, a.l[k]? = some x := ⟨_, List.getElem?_eq_getElem hlt⟩
      obtain ⟨y, hy⟩ : ∃ x, b.l[k]? = some x := ⟨_, List.getElem?_eq_getElem (by omega)⟩
      have hx := sizeL_take hg
      have hx2 := sizeL_take_le a.l (k + 1)
      (repeat (first | apply kS | apply kB | apply kL | apply kN | (refine kR follows_any [] (by rfl) ?_ ?_; first | exact kT1 | exact kT2 | exact kT3 | exact kT4)))
      refine kR follows_any [.c [.int .i64 (x).kind, .bool (x).b, .int .i64 (x).n, .str (x).s, .lst .any 6 (rowsV (x).l), .lst .any 7 (rowsM (x).m)], .c [.int .i64 (y).kind, .bool (y).b, .int .i64 (y).n, .str (y).s, .lst .any 6 (rowsV (y).l), .lst .any 7 (rowsM (y).m)], .v (.bool (x.sameB y))] (by rfl) ?_ ?_
      · ((repeat' apply And.intro) <;> first | trivial | omega | (simp only [List.length_nil, List.length_cons]; omega) | (intro hgd; first | (rw [hgd]; rfl) | (refine ⟨?_, by repeat (first | exact trivial | refine ⟨hgd, ?_⟩)⟩; (repeat' apply And.intro) <;> first | trivial | omega | (intro h2; rw [hgd, h2]; rfl) | skip)) | skip)
        · exact rowsV_at hg
        · exact rowsV_at hy
        · exact ih x y (by omega) (by omega)
      refine AK.cond (by rfl) (fun hb => ?_) (fun hb => ?_)
      · have he : x ≠ y := V.sameB_false.1 (by simpa using hb)
        (repeat (first | apply kS | apply kB | apply kL | apply kN | (refine kR follows_any [] (by rfl) ?_ ?_; first | exact kT1 | exact kT2 | exact kT3 | exact kT4)))
        refine AK.ret ⟨_, rfl, ?_⟩
        exact same_no (by rintro rfl; rw [hg] at hy; exact he (Option.some.inj hy))
      · have he : x = y := V.sameB_true.1 (by simpa using hb)
        (repeat (first | apply kS | apply kB | apply kL | apply kN | (refine kR follows_any [] (by rfl) ?_ ?_; first | exact kT1 | exact kT2 | exact kT3 | exact kT4)))
        exact AK.lp ⟨k + 1, ⟨by omega, take_more hr hg hy he⟩, Weak.intro ⟨⟨_, rfl, .refl _⟩, ⟨_, rfl, .refl _⟩, ⟨_, rfl, .of_eq (congrArg _ (by first | omega | (rw [wrap_in (by omega) (by omega)]; omega)))⟩, trivial⟩ ⟨⟨_, rfl, leL_refl _⟩, ⟨_, rfl, leL_refl _⟩, trivial⟩ rfl rfl, by omega⟩
    · have hlt : k = a.l.length := by have : a.l.length ≤ k := by simpa [rowsV_len] using hb
                                      omega
      subst hlt
      have e7 : a.l = b.l := by rw [List.take_length, e5, List.take_length] at hr; exact hr
      clear hr
      refine AK.exit rfl ?_
      (repeat (first | apply kS | apply kB | apply kL | apply kN | (refine kR follows_any [] (by rfl) ?_ ?_; first | exact kT1 | exact kT2 | exact kT3 | exact kT4)))
      refine AK.loopI (fun k : Nat => (frOf [(2, .ptr 2 0), (3, .ptr 3 0), (6, .int .i64 k)], ⟨boxOf [(2, [.int .i64 (a).kind, .bool (a).b, .int .i64 (a).n, .str (a).s, .lst .any 6 (rowsV (a).l), .lst .any 7 (rowsM (a).m)], false), (3, [.int .i64 (b).kind, .bool (b).b, .int .i64 (b).n, .str (b).s, .lst .any 6 (rowsV (b).l), .lst .any 7 (rowsM (b).m)], false)], fun _ => 0⟩)) (fun k => k ≤ a.m.length ∧ a.m.take k = b.m.take k) (fun k => a.m.length - k) 0 ⟨by omega, rfl⟩ (Weak.intro ⟨⟨_, rfl, .refl _⟩, ⟨_, rfl, .refl _⟩, ⟨_, rfl, .refl _⟩, trivial⟩ ⟨⟨_, rfl, leL_refl _⟩, ⟨_, rfl, leL_refl _⟩, trivial⟩ rfl rfl) fun k ⟨hk, hr⟩ => ?_
      (repeat (first | apply kS | apply kB | apply kL | apply kN | (refine kR follows_any [] (by rfl) ?_ ?_; first | exact kT1 | exact kT2 | exact kT3 | exact kT4)))
      refine AK.cond (by rfl) (fun hb => ?_) (fun hb => ?_)
      · have hlt : k < a.m.length := by simpa [rowsM_len] using hb
        obtain ⟨⟨p, x⟩, hg⟩ : ∃ x, a.m[k]? = some x := ⟨_, List.getElem?_eq_getElem hlt⟩
        obtain ⟨⟨q, y⟩, hy⟩ : ∃ x, b.m[k]? = some x := ⟨_, List.getElem?_eq_getElem (by omega)⟩
        have hx := sizeM_take hg
        have hx2 := sizeM_take_le a.m (k + 1)
        (repeat (first | apply kS | apply kB | apply kL | apply kN | (refine kR follows_any [] (by rfl) ?_ ?_; first | exact kT1 | exact kT2 | exact kT3 | exact kT4)))
        refine kR follows_any [.c (.str p :: [.int .i64 (x).kind, .bool (x).b, .int .i64 (x).n, .str (x).s, .lst .any 6 (rowsV (x).l), .lst .any 7 (rowsM (x).m)]), .c (.str q :: [.int .i64 (y).kind, .bool (y).b, .int .i64 (y).n, .str (y).s, .lst .any 6 (rowsV (y).l), .lst .any 7 (rowsM (y).m)]), .c (.str p :: [.int .i64 (x).kind, .bool (x).b, .int .i64 (x).n, .str (x).s, .lst .any 6 (rowsV (x).l), .lst .any 7 (rowsM (x).m)]), .c (.str q :: [.int .i64 (y).kind, .bool (y).b, .int .i64 (y).n, .str (y).s, .lst .any 6 (rowsV (y).l), .lst .any 7 (rowsM (y).m)]), .v (.bool (x.sameB y))] (by rfl) ?_ ?_
        · ((repeat' apply And.intro) <;> first | trivial | omega | (simp only [List.length_nil, List.length_cons]; omega) | (intro hgd; first | (rw [hgd]; rfl) | (refine ⟨?_, by repeat (first | exact trivial | refine ⟨hgd, ?_⟩)⟩; (repeat' apply And.intro) <;> first | trivial | omega | (intro h2; rw [hgd, h2]; rfl) | skip)) | skip)
          · exact rowsM_at hg
          · exact rowsM_at hy
          · exact rowsM_at hg
          · exact rowsM_at hy
          · exact ih x y (by omega) (by omega)
        refine AK.cond (by rfl) (fun hb => ?_) (fun hb => ?_)
        · have he : ¬ (p = q ∧ x = y) := by
            rintro ⟨rfl, rfl⟩
            rw [V.sameB_true.2 rfl] at hb
            simp at hb
          (repeat (first | apply kS | apply kB | apply kL | apply kN | (refine kR follows_any [] (by rfl) ?_ ?_; first | exact kT1 | exact kT2 | exact kT3 | exact kT4)))
          refine AK.ret ⟨_, rfl, ?_⟩
          exact same_no (by rintro rfl; rw [hg] at hy; cases hy; exact he ⟨rfl, rfl⟩)
        · have he : p = q ∧ x = y := by
            simp only [Bool.or_eq_false_iff, Bool.not_eq_false', decide_eq_true_eq] at hb
            exact ⟨hb.1, V.sameB_true.1 hb.2⟩
          (repeat (first | apply kS | apply kB | apply kL | apply kN | (refine kR follows_any [] (by rfl) ?_ ?_; first | exact kT1 | exact kT2 | exact kT3 | exact kT4)))
          exact AK.lp ⟨k + 1, ⟨by omega, take_more hr hg hy (by rw [he.1, he.2])⟩, Weak.intro ⟨⟨_, rfl, .refl _⟩, ⟨_, rfl, .refl _⟩, ⟨_, rfl, .of_eq (congrArg _ (by first | omega | (rw [wrap_in (by omega) (by omega)]; omega)))⟩, trivial⟩ ⟨⟨_, rfl, leL_refl _⟩, ⟨_, rfl, leL_refl _⟩, trivial⟩ rfl rfl, by omega⟩
      · have hlt : k = a.m.length := by have : a.m.length ≤ k := by simpa [rowsM_len] using hb
                                        omega
        subst hlt
        have e8 : a.m = b.m := by rw [List.take_length, e6, List.take_length] at hr; exact hr
        refine AK.exit rfl ?_
        (repeat (first | apply kS | apply kB | apply kL | apply kN | (refine kR follows_any [] (by rfl) ?_ ?_; first | exact kT1 | exact kT2 | exact kT3 | exact kT4)))
        refine AK.ret ⟨_, rfl, ?_⟩
        exact congrArg AV.bool (V.sameB_true.2 (V.ext_iff'.2 ⟨e1, e2, e3, e4, e7, e8⟩)).symm

end Go.Proofs.YtfnpjakekeojoaaGreatDoor
