/-
  The law's functions weight, Light, Right, walked as instructions.
-/
import Derived.Test.YtfnpjakekeojoaaGreatDoorDr2
import Derived.Test.YtfnpjakekeojoaaGreatDoorGav
import Derived.Test.YtfnpjakekeojoaaGreatDoorLj1
namespace Go.Proofs.YtfnpjakekeojoaaGreatDoor
set_option linter.unusedSimpArgs false
set_option linter.unusedVariables false
open Go.RowKit

theorem wtL_drop {l : List V} {k deep n : Nat} {x : V} (h : l[k]? = some x) : wtL (l.drop k) deep n = if 6000 < n + x.wt deep then (n + x.wt deep, true) else wtL (l.drop (k + 1)) deep (n + x.wt deep) := by
  rw [drop_at h, wtL]
theorem wtM_drop {l : List (ByteArray × V)} {k deep n : Nat} {y : ByteArray} {x : V} (h : l[k]? = some (y, x)) : wtM (l.drop k) deep n = if 6000 < n + (x.wt deep + y.size) then (n + (x.wt deep + y.size), true) else wtM (l.drop (k + 1)) deep (n + (x.wt deep + y.size)) := by
  rw [drop_at h, wtM]
theorem wt_deep {v : V} {deep : Nat} (h : 40 < deep) : v.wt deep = 1048576 := by rw [V.wt_eq, if_pos h]
theorem wt_list {v : V} {deep : Nat} (h : ¬ 40 < deep) (h2 : (wtL v.l (deep + 1) (1 + v.s.size)).2 = true) : v.wt deep = (wtL v.l (deep + 1) (1 + v.s.size)).1 := by rw [V.wt_eq, if_neg h, if_pos h2]
theorem wt_map {v : V} {deep n : Nat} (h : ¬ 40 < deep) (h2 : wtL v.l (deep + 1) (1 + v.s.size) = (n, false)) : v.wt deep = (wtM v.m (deep + 1) n).1 := by rw [V.wt_eq, if_neg h, h2]; rfl

theorem weight_a (N : Nat) : ∀ (v : V) (deep : Nat), v.size ≤ N → v.sb → deep ≤ 41 → AC Tryz.prog 67 [.agg [.int .i64 (v).kind, .bool (v).b, .int .i64 (v).n, .str (v).s, .lst .any 6 (rowsV (v).l), .lst .any 7 (rowsM (v).m)], .int .i64 deep] (.int .i64 (v.wt deep : Nat)) := by
  induction N with
  | zero => intro v _ h; have := v.size_pos; omega
  | succ N ih =>
    intro v deep hn hsb hd
    have hve := v.size_eq
    have hss := sb_s hsb
    have hll := len_le_sizeL v.l
    have hlm := len_le_sizeM v.m
    obtain ⟨hl1, hl2⟩ := sb_len hsb
    refine AC.enter Tryz.func67 a_law01_weight_ok a_law01_weight_cb (by rfl) fun E hE => ?_
    show AK _ _ _ [.c b_law01_weight] _ _
    rw [b_law01_weight]
    (repeat (first | apply kS | apply kB | apply kL | apply kN | (refine kR follows_any [] (by rfl) ?_ ?_; first | exact kT1 | exact kT2 | exact kT3 | exact kT4)))
    refine AK.cond (by rfl) (fun hb => ?_) (fun hb => ?_)
    · have h1 : 40 < deep := by have : (40 : Int) < deep := by simpa using hb
                                omega
      (repeat (first | apply kS | apply kB | apply kL | apply kN | (refine kR follows_any [] (by rfl) ?_ ?_; first | exact kT1 | exact kT2 | exact kT3 | exact kT4)))
      refine AK.ret ⟨_, rfl, ?_⟩
      exact congrArg (AV.int _) (by rw [wt_deep h1]; rfl)
    have h1 : ¬ 40 < deep := by have : (deep : Int) ≤ 40 := by simpa using hb
                                omega
    (repeat (first | apply kS | apply kB | apply kL | apply kN | (refine kR follows_any [] (by rfl) ?_ ?_; first | exact kT1 | exact kT2 | exact kT3 | exact kT4)))
    refine AK.loopI (fun i : Nat × Nat => (frOf [(1, .int .i64 deep), (2, .ptr 2 0), (5, .int .i64 (i.2 : Nat)), (17, .lst .any 6 (rowsV v.l)), (18, .int .i64 (rowsV v.l).length), (19, .int .i64 i.1)], ⟨boxOf [(2, [.int .i64 (v).kind, .bool (v).b, .int .i64 (v).n, .str (v).s, .lst .any 6 (rowsV (v).l), .lst .any 7 (rowsM (v).m)], false)], fun _ => 0⟩))
      (fun i => i.1 ≤ v.l.length ∧ i.2 ≤ 140737488361328 ∧ wtL (v.l.drop i.1) (deep + 1) i.2 = wtL v.l (deep + 1) (1 + v.s.size)) (fun i => v.l.length - i.1) (0, 1 + v.s.size) ⟨by simp, by simp; omega, rfl⟩ (Weak.intro ⟨⟨_, rfl, .refl _⟩, ⟨_, rfl, .refl _⟩, ⟨_, rfl, .of_eq (congrArg _ (by first | omega | (rw [wrap_in (by omega) (by omega)]; omega)))⟩, ⟨_, rfl, .refl _⟩, ⟨_, rfl, .refl _⟩, ⟨_, rfl, .refl _⟩, trivial⟩ ⟨⟨_, rfl, leL_refl _⟩, trivial⟩ rfl rfl) fun ⟨k, n⟩ ⟨hk, hn6, hr⟩ => ?_
    dsimp only at hk hn6 hr
    (repeat (first | apply kS | apply kB | apply kL | apply kN | (refine kR follows_any [] (by rfl) ?_ ?_; first | exact kT1 | exact kT2 | exact kT3 | exact kT4)))
    refine AK.cond (by rfl) (fun hb => ?_) (fun hb => ?_)
    · have hlt : k < v.l.length := by simpa [rowsV_len] using hb
      obtain ⟨x, hg⟩ : ∃ x, v.l[k]? = some x := ⟨_, List.getElem?_eq_getElem hlt⟩
      have hx := sizeL_take hg
      have hx2 := sizeL_take_le v.l (k + 1)
      have hwt := V.wt_sb (sb_l hsb hg) (deep := deep + 1) (by omega)
      rw [wtL_drop hg] at hr
      (repeat (first | apply kS | apply kB | apply kL | apply kN | (refine kR follows_any [] (by rfl) ?_ ?_; first | exact kT1 | exact kT2 | exact kT3 | exact kT4)))
      refine kR follows_any [.c [.int .i64 (x).kind, .bool (x).b, .int .i64 (x).n, .str (x).s, .lst .any 6 (rowsV (x).l), .lst .any 7 (rowsM (x).m)]] (by rfl) ?_ ?_
      · ((repeat' apply And.intro) <;> first | trivial | omega | (simp only [List.length_nil, List.length_cons]; omega) | (intro hgd; first | (rw [hgd]; rfl) | (refine ⟨?_, by repeat (first | exact trivial | refine ⟨hgd, ?_⟩)⟩; (repeat' apply And.intro) <;> first | trivial | omega | (intro h2; rw [hgd, h2]; rfl) | skip)) | skip)
        · exact rowsV_at hg
      (repeat (first | apply kS | apply kB | apply kL | apply kN | (refine kR follows_any [] (by rfl) ?_ ?_; first | exact kT1 | exact kT2 | exact kT3 | exact kT4)))
      refine kR follows_any [.v (.int .i64 (x.wt (deep + 1) : Nat))] (by rfl) ?_ ?_
      · ((repeat' apply And.intro) <;> first | trivial | omega | (simp only [List.length_nil, List.length_cons]; omega) | (intro hgd; first | (rw [hgd]; rfl) | (refine ⟨?_, by repeat (first | exact trivial | refine ⟨hgd, ?_⟩)⟩; (repeat' apply And.intro) <;> first | trivial | omega | (intro h2; rw [hgd, h2]; rfl) | skip)) | skip)
        · rw [wrap_in (by omega) (by omega)]
          exact ih x (deep + 1) (by omega) (sb_l hsb hg) (by omega)
      (repeat (first | apply kS | apply kB | apply kL | apply kN | (refine kR follows_any [] (by rfl) ?_ ?_; first | exact kT1 | exact kT2 | exact kT3 | exact kT4)))
      have hw : IntKind.i64.wrap (((k, n).2 : Nat) + (x.wt (deep + 1) : Nat)) = ((n + x.wt (deep + 1) : Nat) : Int) := by
        rw [wrap_in (by omega) (by omega)]; omega
      refine AK.cond (by rfl) (fun hb => ?_) (fun hb => ?_)
      · have he : 6000 < n + x.wt (deep + 1) := by
          have : (6000 : Int) < (n + x.wt (deep + 1) : Nat) := by rw [← hw]; simpa using hb
          omega
        rw [if_pos he] at hr
        (repeat (first | apply kS | apply kB | apply kL | apply kN | (refine kR follows_any [] (by rfl) ?_ ?_; first | exact kT1 | exact kT2 | exact kT3 | exact kT4)))
        refine AK.ret ⟨_, rfl, ?_⟩
        exact congrArg (AV.int _) (by rw [wt_list h1 (by rw [← hr]), ← hr, hw])
      · have he : ¬ 6000 < n + x.wt (deep + 1) := by
          have : ((n + x.wt (deep + 1) : Nat) : Int) ≤ 6000 := by rw [← hw]; simpa using hb
          omega
        rw [if_neg he] at hr
        (repeat (first | apply kS | apply kB | apply kL | apply kN | (refine kR follows_any [] (by rfl) ?_ ?_; first | exact kT1 | exact kT2 | exact kT3 | exact kT4)))
        exact AK.lp ⟨(k + 1, n + x.wt (deep + 1)), ⟨by dsimp only; omega, by dsimp only; omega, hr⟩, Weak.intro ⟨⟨_, rfl, .refl _⟩, ⟨_, rfl, .refl _⟩, ⟨_, rfl, .of_eq (congrArg _ hw)⟩, ⟨_, rfl, .refl _⟩, ⟨_, rfl, .refl _⟩, ⟨_, rfl, .of_eq (congrArg _ (by first | omega | (rw [wrap_in (by omega) (by omega)]; omega)))⟩, trivial⟩ ⟨⟨_, rfl, leL_refl _⟩, trivial⟩ rfl rfl, by dsimp only; omega⟩
    · have hlt : k = v.l.length := by have : v.l.length ≤ k := by simpa [rowsV_len] using hb
                                      omega
      subst hlt
      rw [List.drop_length, wtL] at hr
      refine AK.exit rfl ?_
      (repeat (first | apply kS | apply kB | apply kL | apply kN | (refine kR follows_any [] (by rfl) ?_ ?_; first | exact kT1 | exact kT2 | exact kT3 | exact kT4)))
      refine AK.loopI (fun i : Nat × Nat => (frOf [(1, .int .i64 deep), (2, .ptr 2 0), (5, .int .i64 (i.2 : Nat)), (34, .lst .any 7 (rowsM v.m)), (35, .int .i64 (rowsM v.m).length), (36, .int .i64 i.1)], ⟨boxOf [(2, [.int .i64 (v).kind, .bool (v).b, .int .i64 (v).n, .str (v).s, .lst .any 6 (rowsV (v).l), .lst .any 7 (rowsM (v).m)], false)], fun _ => 0⟩))
        (fun i => i.1 ≤ v.m.length ∧ i.2 ≤ 140737488361328 ∧ (wtM (v.m.drop i.1) (deep + 1) i.2).1 = v.wt deep) (fun i => v.m.length - i.1) (0, n) ⟨by simp, hn6, (wt_map h1 hr.symm).symm⟩ (Weak.intro ⟨⟨_, rfl, .refl _⟩, ⟨_, rfl, .refl _⟩, ⟨_, rfl, .refl _⟩, ⟨_, rfl, .refl _⟩, ⟨_, rfl, .refl _⟩, ⟨_, rfl, .refl _⟩, trivial⟩ ⟨⟨_, rfl, leL_refl _⟩, trivial⟩ rfl rfl) fun ⟨k, n⟩ ⟨hk, hn6, hr⟩ => ?_
      dsimp only at hk hn6 hr
      (repeat (first | apply kS | apply kB | apply kL | apply kN | (refine kR follows_any [] (by rfl) ?_ ?_; first | exact kT1 | exact kT2 | exact kT3 | exact kT4)))
      refine AK.cond (by rfl) (fun hb => ?_) (fun hb => ?_)
      · have hlt : k < v.m.length := by simpa [rowsM_len] using hb
        obtain ⟨⟨y, x⟩, hg⟩ : ∃ x, v.m[k]? = some x := ⟨_, List.getElem?_eq_getElem hlt⟩
        have hx := sizeM_take hg
        have hx2 := sizeM_take_le v.m (k + 1)
        have hwt := V.wt_sb (sb_m hsb hg).2 (deep := deep + 1) (by omega)
        have hy := (sb_m hsb hg).1
        rw [wtM_drop hg] at hr
        (repeat (first | apply kS | apply kB | apply kL | apply kN | (refine kR follows_any [] (by rfl) ?_ ?_; first | exact kT1 | exact kT2 | exact kT3 | exact kT4)))
        refine kR follows_any [.c (.str y :: [.int .i64 (x).kind, .bool (x).b, .int .i64 (x).n, .str (x).s, .lst .any 6 (rowsV (x).l), .lst .any 7 (rowsM (x).m)])] (by rfl) ?_ ?_
        · ((repeat' apply And.intro) <;> first | trivial | omega | (simp only [List.length_nil, List.length_cons]; omega) | (intro hgd; first | (rw [hgd]; rfl) | (refine ⟨?_, by repeat (first | exact trivial | refine ⟨hgd, ?_⟩)⟩; (repeat' apply And.intro) <;> first | trivial | omega | (intro h2; rw [hgd, h2]; rfl) | skip)) | skip)
          · exact rowsM_at hg
        (repeat (first | apply kS | apply kB | apply kL | apply kN | (refine kR follows_any [] (by rfl) ?_ ?_; first | exact kT1 | exact kT2 | exact kT3 | exact kT4)))
        refine kR follows_any [.v (.int .i64 (x.wt (deep + 1) : Nat))] (by rfl) ?_ ?_
        · ((repeat' apply And.intro) <;> first | trivial | omega | (simp only [List.length_nil, List.length_cons]; omega) | (intro hgd; first | (rw [hgd]; rfl) | (refine ⟨?_, by repeat (first | exact trivial | refine ⟨hgd, ?_⟩)⟩; (repeat' apply And.intro) <;> first | trivial | omega | (intro h2; rw [hgd, h2]; rfl) | skip)) | skip)
          · rw [wrap_in (by omega) (by omega)]
            exact ih x (deep + 1) (by omega) (sb_m hsb hg).2 (by omega)
        (repeat (first | apply kS | apply kB | apply kL | apply kN | (refine kR follows_any [] (by rfl) ?_ ?_; first | exact kT1 | exact kT2 | exact kT3 | exact kT4)))
        have hw : IntKind.i64.wrap (((k, n).2 : Nat) + IntKind.i64.wrap ((x.wt (deep + 1) : Nat) + y.size)) = ((n + (x.wt (deep + 1) + y.size) : Nat) : Int) := by
          rw [wrap_in (n := (x.wt (deep + 1) : Nat) + y.size) (by omega) (by omega), wrap_in (by dsimp only; omega) (by dsimp only; omega)]; dsimp only; omega
        refine AK.cond (by rfl) (fun hb => ?_) (fun hb => ?_)
        · have he : 6000 < n + (x.wt (deep + 1) + y.size) := by
            have : (6000 : Int) < (n + (x.wt (deep + 1) + y.size) : Nat) := by rw [← hw]; simpa using hb
            omega
          rw [if_pos he] at hr
          (repeat (first | apply kS | apply kB | apply kL | apply kN | (refine kR follows_any [] (by rfl) ?_ ?_; first | exact kT1 | exact kT2 | exact kT3 | exact kT4)))
          refine AK.ret ⟨_, rfl, ?_⟩
          exact congrArg (AV.int _) (by rw [← hr, hw])
        · have he : ¬ 6000 < n + (x.wt (deep + 1) + y.size) := by
            have : ((n + (x.wt (deep + 1) + y.size) : Nat) : Int) ≤ 6000 := by rw [← hw]; simpa using hb
            omega
          rw [if_neg he] at hr
          (repeat (first | apply kS | apply kB | apply kL | apply kN | (refine kR follows_any [] (by rfl) ?_ ?_; first | exact kT1 | exact kT2 | exact kT3 | exact kT4)))
          exact AK.lp ⟨(k + 1, n + (x.wt (deep + 1) + y.size)), ⟨by dsimp only; omega, by dsimp only; omega, hr⟩, Weak.intro ⟨⟨_, rfl, .refl _⟩, ⟨_, rfl, .refl _⟩, ⟨_, rfl, .of_eq (congrArg _ hw)⟩, ⟨_, rfl, .refl _⟩, ⟨_, rfl, .refl _⟩, ⟨_, rfl, .of_eq (congrArg _ (by first | omega | (rw [wrap_in (by omega) (by omega)]; omega)))⟩, trivial⟩ ⟨⟨_, rfl, leL_refl _⟩, trivial⟩ rfl rfl, by dsimp only; omega⟩
      · have hlt : k = v.m.length := by have : v.m.length ≤ k := by simpa [rowsM_len] using hb
                                        omega
        subst hlt
        rw [List.drop_length, wtM] at hr
        refine AK.exit rfl ?_
        (repeat (first | apply kS | apply kB | apply kL | apply kN | (refine kR follows_any [] (by rfl) ?_ ?_; first | exact kT1 | exact kT2 | exact kT3 | exact kT4)))
        refine AK.ret ⟨_, rfl, ?_⟩
        exact congrArg (AV.int _) (by rw [← hr])

theorem light_a (v : V) (hsb : v.sb) : AC Tryz.prog 44 [.agg [.int .i64 (v).kind, .bool (v).b, .int .i64 (v).n, .str (v).s, .lst .any 6 (rowsV (v).l), .lst .any 7 (rowsM (v).m)]] (.bool v.light_) := by
  refine AC.enter Tryz.func44 a_law01_Light_ok a_law01_Light_cb (by rfl) fun E hE => ?_
  show AK _ _ _ [.c b_law01_Light] _ _
  rw [b_law01_Light]
  (repeat (first | apply kS | apply kB | apply kL | apply kN | (refine kR follows_any [] (by rfl) ?_ ?_; first | exact kT1 | exact kT2 | exact kT3 | exact kT4)))
  refine kR follows_any [.v (.int .i64 (v.wt 0 : Nat))] (by rfl) ?_ ?_
  · ((repeat' apply And.intro) <;> first | trivial | omega | (simp only [List.length_nil, List.length_cons]; omega) | (intro hgd; first | (rw [hgd]; rfl) | (refine ⟨?_, by repeat (first | exact trivial | refine ⟨hgd, ?_⟩)⟩; (repeat' apply And.intro) <;> first | trivial | omega | (intro h2; rw [hgd, h2]; rfl) | skip)) | skip)
    · exact weight_a _ v 0 (Nat.le_refl _) hsb (by omega)
  (repeat (first | apply kS | apply kB | apply kL | apply kN | (refine kR follows_any [] (by rfl) ?_ ?_; first | exact kT1 | exact kT2 | exact kT3 | exact kT4)))
  refine AK.ret ⟨_, rfl, ?_⟩
  refine congrArg AV.bool ?_
  rw [V.light_, Bool.eq_iff_iff]
  simp
  omega

theorem right_drop {l : List V} {k : Nat} {x : V} (h : l[k]? = some x) : rightB (l.drop k) = ((x.light_ && decide (x.checkC = 0)) && rightB (l.drop (k + 1))) := by
  unfold rightB; rw [drop_at h, List.all_cons]
theorem right_a (l : List V) (hl : l.length ≤ 2000000000000) (h : ∀ x ∈ l, x.sb) : AC Tryz.prog 24 [.lst .any 6 (rowsV l)] (.bool (rightB l)) := by
  refine AC.enter Tryz.func24 a_law01_Right_ok a_law01_Right_cb (by rfl) fun E hE => ?_
  show AK _ _ _ [.c b_law01_Right] _ _
  rw [b_law01_Right]
  (repeat (first | apply kS | apply kB | apply kL | apply kN | (refine kR follows_any [] (by rfl) ?_ ?_; first | exact kT1 | exact kT2 | exact kT3 | exact kT4)))
  refine AK.loopI (fun k : Nat => (frOf [(5, .lst .any 6 (rowsV l)), (6, .int .i64 (rowsV l).length), (7, .int .i64 k)], ⟨boxOf [], fun _ => 0⟩))
    (fun k => k ≤ l.length ∧ rightB (l.drop k) = rightB l) (fun k => l.length - k) 0 ⟨by simp, rfl⟩ (Weak.intro ⟨⟨_, rfl, .refl _⟩, ⟨_, rfl, .refl _⟩, ⟨_, rfl, .refl _⟩, trivial⟩ trivial rfl rfl) fun k ⟨hk, hr⟩ => ?_
  (repeat (first | apply kS | apply kB | apply kL | apply kN | (refine kR follows_any [] (by rfl) ?_ ?_; first | exact kT1 | exact kT2 | exact kT3 | exact kT4)))
  refine AK.cond (by rfl) (fun hb => ?_) (fun hb => ?_)
  · have hlt : k < l.length := by simpa [rowsV_len] using hb
    obtain ⟨x, hg⟩ : ∃ x, l[k]? = some x := ⟨_, List.getElem?_eq_getElem hlt⟩
    have hxs := h x (List.mem_of_getElem? hg)
    rw [right_drop hg] at hr
    (repeat (first | apply kS | apply kB | apply kL | apply kN | (refine kR follows_any [] (by rfl) ?_ ?_; first | exact kT1 | exact kT2 | exact kT3 | exact kT4)))
    refine kR follows_any [.c [.int .i64 (x).kind, .bool (x).b, .int .i64 (x).n, .str (x).s, .lst .any 6 (rowsV (x).l), .lst .any 7 (rowsM (x).m)]] (by rfl) ?_ ?_
    · ((repeat' apply And.intro) <;> first | trivial | omega | (simp only [List.length_nil, List.length_cons]; omega) | (intro hgd; first | (rw [hgd]; rfl) | (refine ⟨?_, by repeat (first | exact trivial | refine ⟨hgd, ?_⟩)⟩; (repeat' apply And.intro) <;> first | trivial | omega | (intro h2; rw [hgd, h2]; rfl) | skip)) | skip)
      · exact rowsV_at hg
    (repeat (first | apply kS | apply kB | apply kL | apply kN | (refine kR follows_any [] (by rfl) ?_ ?_; first | exact kT1 | exact kT2 | exact kT3 | exact kT4)))
    refine kR follows_any [.v (.bool x.light_), .v (.int .i64 x.checkC)] (by rfl) ?_ ?_
    · ((repeat' apply And.intro) <;> first | trivial | omega | (simp only [List.length_nil, List.length_cons]; omega) | (intro hgd; first | (rw [hgd]; rfl) | (refine ⟨?_, by repeat (first | exact trivial | refine ⟨hgd, ?_⟩)⟩; (repeat' apply And.intro) <;> first | trivial | omega | (intro h2; rw [hgd, h2]; rfl) | skip)) | skip)
      · exact light_a x hxs
      · exact refCheck_a x hxs (by have := V.light_size (show x.light_ = true by simpa [gd] using hgd); omega)
    refine AK.cond (by rfl) (fun hb => ?_) (fun hb => ?_)
    · have he : (x.light_ && decide (x.checkC = 0)) = false := by rcases (show x.light_ = false ∨ ¬ x.checkC = 0 by simpa using hb) with h | h <;> simp [h]
      rw [he, Bool.false_and] at hr
      (repeat (first | apply kS | apply kB | apply kL | apply kN | (refine kR follows_any [] (by rfl) ?_ ?_; first | exact kT1 | exact kT2 | exact kT3 | exact kT4)))
      refine AK.ret ⟨_, rfl, ?_⟩
      exact congrArg AV.bool hr
    · have he : (x.light_ && decide (x.checkC = 0)) = true := by simpa using hb
      rw [he, Bool.true_and] at hr
      (repeat (first | apply kS | apply kB | apply kL | apply kN | (refine kR follows_any [] (by rfl) ?_ ?_; first | exact kT1 | exact kT2 | exact kT3 | exact kT4)))
      exact AK.lp ⟨k + 1, ⟨by omega, hr⟩, Weak.intro ⟨⟨_, rfl, .refl _⟩, ⟨_, rfl, .refl _⟩, ⟨_, rfl, .of_eq (congrArg _ (by first | omega | (rw [wrap_in (by omega) (by omega)]; omega)))⟩, trivial⟩ trivial rfl rfl, by omega⟩
  · have hlt : k = l.length := by have : l.length ≤ k := by simpa [rowsV_len] using hb
                                  omega
    subst hlt
    rw [List.drop_length] at hr
    refine AK.exit rfl ?_
    (repeat (first | apply kS | apply kB | apply kL | apply kN | (refine kR follows_any [] (by rfl) ?_ ?_; first | exact kT1 | exact kT2 | exact kT3 | exact kT4)))
    refine AK.ret ⟨_, rfl, ?_⟩
    exact congrArg AV.bool (by rw [← hr]; rfl)
end Go.Proofs.YtfnpjakekeojoaaGreatDoor
/-
  The document's functions Same, Get, Leaves, Get along a path, Begins, walked as instructions.
-/
namespace Go.Proofs.YtfnpjakekeojoaaGreatDoor
set_option linter.unusedSimpArgs false
set_option linter.unusedVariables false
open Go.RowKit

theorem refGet_a (v : V) (key : ByteArray) (hsz : v.size ≤ 2000000000000) : AC Tryz.prog 35 [.agg [.int .i64 (v).kind, .bool (v).b, .int .i64 (v).n, .str (v).s, .lst .any 6 (rowsV (v).l), .lst .any 7 (rowsM (v).m)], .str key] (getAV (mfind key v.m)) := by
  have hve := v.size_eq
  have hlm := len_le_sizeM v.m
  refine AC.enter Tryz.func35 a_ref01_Get_ok a_ref01_Get_cb (by rfl) fun E hE => ?_
  show AK _ _ _ [.c b_ref01_Get] _ _
  rw [b_ref01_Get]
  (repeat (first | apply kS | apply kB | apply kL | apply kN | (refine kR follows_any [] (by rfl) ?_ ?_; first | exact kT1 | exact kT2 | exact kT3 | exact kT4)))
  refine AK.loopI (fun k : Nat => (frOf [(1, .str key), (2, .ptr 2 0), (4, .ptr 4 0), (6, .int .i64 k)], ⟨boxOf [(2, [.int .i64 (v).kind, .bool (v).b, .int .i64 (v).n, .str (v).s, .lst .any 6 (rowsV (v).l), .lst .any 7 (rowsM (v).m)], false), (4, [.int .i64 0, .bool false, .int .i64 0, .str ⟨#[]⟩, .lst .nil 6 [], .lst .nil 7 []], false)], fun _ => 0⟩)) (fun k => k ≤ v.m.length ∧ ∀ j p, j < k → v.m[j]? = some p → p.1 ≠ key) (fun k => v.m.length - k) 0 ⟨by omega, fun j p h => by omega⟩ (Weak.intro ⟨⟨_, rfl, .refl _⟩, ⟨_, rfl, .refl _⟩, ⟨_, rfl, .refl _⟩, ⟨_, rfl, .refl _⟩, trivial⟩ ⟨⟨_, rfl, leL_refl _⟩, ⟨_, rfl, leL_refl _⟩, trivial⟩ rfl rfl) fun k ⟨hk, hr⟩ => ?_
  (repeat (first | apply kS | apply kB | apply kL | apply kN | (refine kR follows_any [] (by rfl) ?_ ?_; first | exact kT1 | exact kT2 | exact kT3 | exact kT4)))
  refine AK.cond (by rfl) (fun hb => ?_) (fun hb => ?_)
  · have hlt : k < v.m.length := by simpa [rowsM_len] using hb
    obtain ⟨⟨y, x⟩, hg⟩ : ∃ x, v.m[k]? = some x := ⟨_, List.getElem?_eq_getElem hlt⟩
    (repeat (first | apply kS | apply kB | apply kL | apply kN | (refine kR follows_any [] (by rfl) ?_ ?_; first | exact kT1 | exact kT2 | exact kT3 | exact kT4)))
    refine kR follows_any [.c (.str y :: [.int .i64 (x).kind, .bool (x).b, .int .i64 (x).n, .str (x).s, .lst .any 6 (rowsV (x).l), .lst .any 7 (rowsM (x).m)])] (by rfl) ?_ ?_
    · ((repeat' apply And.intro) <;> first | trivial | omega | (simp only [List.length_nil, List.length_cons]; omega) | (intro hgd; first | (rw [hgd]; rfl) | (refine ⟨?_, by repeat (first | exact trivial | refine ⟨hgd, ?_⟩)⟩; (repeat' apply And.intro) <;> first | trivial | omega | (intro h2; rw [hgd, h2]; rfl) | skip)) | skip)
      · exact rowsM_at hg
    refine AK.cond (by rfl) (fun hb => ?_) (fun hb => ?_)
    · have he : y = key := by simpa using hb
      subst he
      (repeat (first | apply kS | apply kB | apply kL | apply kN | (refine kR follows_any [] (by rfl) ?_ ?_; first | exact kT1 | exact kT2 | exact kT3 | exact kT4)))
      refine kR follows_any [.c (.str y :: [.int .i64 (x).kind, .bool (x).b, .int .i64 (x).n, .str (x).s, .lst .any 6 (rowsV (x).l), .lst .any 7 (rowsM (x).m)])] (by rfl) ?_ ?_
      · ((repeat' apply And.intro) <;> first | trivial | omega | (simp only [List.length_nil, List.length_cons]; omega) | (intro hgd; first | (rw [hgd]; rfl) | (refine ⟨?_, by repeat (first | exact trivial | refine ⟨hgd, ?_⟩)⟩; (repeat' apply And.intro) <;> first | trivial | omega | (intro h2; rw [hgd, h2]; rfl) | skip)) | skip)
        · exact rowsM_at hg
      (repeat (first | apply kS | apply kB | apply kL | apply kN | (refine kR follows_any [] (by rfl) ?_ ?_; first | exact kT1 | exact kT2 | exact kT3 | exact kT4)))
      refine AK.ret ⟨_, rfl, ?_⟩
      rw [mfind_at hr hg]
      rfl
    · have he : y ≠ key := by simpa using hb
      (repeat (first | apply kS | apply kB | apply kL | apply kN | (refine kR follows_any [] (by rfl) ?_ ?_; first | exact kT1 | exact kT2 | exact kT3 | exact kT4)))
      exact AK.lp ⟨k + 1, ⟨by omega, ne_more hr hg he⟩, Weak.intro ⟨⟨_, rfl, .refl _⟩, ⟨_, rfl, .refl _⟩, ⟨_, rfl, .refl _⟩, ⟨_, rfl, .of_eq (congrArg _ (by first | omega | (rw [wrap_in (by omega) (by omega)]; omega)))⟩, trivial⟩ ⟨⟨_, rfl, leL_refl _⟩, ⟨_, rfl, leL_refl _⟩, trivial⟩ rfl rfl, by omega⟩
  · have hlt : k = v.m.length := by have : v.m.length ≤ k := by simpa [rowsM_len] using hb
                                    omega
    subst hlt
    refine AK.exit rfl ?_
    (repeat (first | apply kS | apply kB | apply kL | apply kN | (refine kR follows_any [] (by rfl) ?_ ?_; first | exact kT1 | exact kT2 | exact kT3 | exact kT4)))
    refine AK.ret ⟨_, rfl, ?_⟩
    rw [mfind_none hr]
    rfl
end Go.Proofs.YtfnpjakekeojoaaGreatDoor
/-
  The document's Get: found, not found.
-/
namespace Go.Proofs.YtfnpjakekeojoaaGreatDoor
set_option linter.unusedSimpArgs false
set_option linter.unusedVariables false
open Go.RowKit

theorem refGet_none {v : V} {key : ByteArray} (hsz : v.size ≤ 2000000000000) (h : mfind key v.m = none) : AC Tryz.prog 35 [.agg [.int .i64 (v).kind, .bool (v).b, .int .i64 (v).n, .str (v).s, .lst .any 6 (rowsV (v).l), .lst .any 7 (rowsM (v).m)], .str key] nullAV := by
  have := refGet_a v key hsz
  rw [h] at this
  exact this
theorem refGet_some {v : V} {key : ByteArray} (hsz : v.size ≤ 2000000000000) {x : V} (h : mfind key v.m = some x) : AC Tryz.prog 35 [.agg [.int .i64 (v).kind, .bool (v).b, .int .i64 (v).n, .str (v).s, .lst .any 6 (rowsV (v).l), .lst .any 7 (rowsM (v).m)], .str key] (.tup [.agg [.int .i64 (x).kind, .bool (x).b, .int .i64 (x).n, .str (x).s, .lst .any 6 (rowsV (x).l), .lst .any 7 (rowsM (x).m)], .bool true]) := by
  have := refGet_a v key hsz
  rw [h] at this
  exact this
end Go.Proofs.YtfnpjakekeojoaaGreatDoor
/-
  The statement that what is set last stands, walked: what it calls first.
-/
namespace Go.Proofs.YtfnpjakekeojoaaGreatDoor
set_option linter.unusedSimpArgs false
set_option linter.unusedVariables false
open Go.RowKit

def right11 (v : V) : Bool := rightB [v] && decide (v.kind = 5)
theorem right11_a (v : V) (hsb : v.sb) : AC Tryz.prog 6 [.agg [.int .i64 (v).kind, .bool (v).b, .int .i64 (v).n, .str (v).s, .lst .any 6 (rowsV (v).l), .lst .any 7 (rowsM (v).m)]] (.bool (right11 v)) := by
  have hR := right_a [v] (by simp) (fun x hx => by rw [List.mem_singleton.1 hx]; exact hsb)
  rw [show rowsV [v] = [[.int .i64 (v).kind, .bool (v).b, .int .i64 (v).n, .str (v).s, .lst .any 6 (rowsV (v).l), .lst .any 7 (rowsM (v).m)]] from by rw [rowsV, rowsV, cellsV_eq]] at hR
  refine AC.enter Tryz.func6 a_law11_right_ok a_law11_right_cb (by rfl) fun E hE => ?_
  show AK _ _ _ [.c b_law11_right] _ _
  rw [b_law11_right]
  (repeat (first | apply kS | apply kB | apply kL | apply kN | (refine kR follows_any [] (by rfl) ?_ ?_; first | exact kT1 | exact kT2 | exact kT3 | exact kT4)))
  refine kR follows_any [.v (.bool (rightB [v]))] (by rfl) ?_ ?_
  · ((repeat' apply And.intro) <;> first | trivial | omega | (simp only [List.length_nil, List.length_cons]; omega) | (intro hgd; first | (rw [hgd]; rfl) | (refine ⟨?_, by repeat (first | exact trivial | refine ⟨hgd, ?_⟩)⟩; (repeat' apply And.intro) <;> first | trivial | omega | (intro h2; rw [hgd, h2]; rfl) | skip)) | skip)
  (repeat (first | apply kS | apply kB | apply kL | apply kN | (refine kR follows_any [] (by rfl) ?_ ?_; first | exact kT1 | exact kT2 | exact kT3 | exact kT4)))
  refine AK.ret ⟨_, rfl, ?_⟩
  rfl
theorem right11_iff {v : V} (h : right11 v = true) : v.light_ = true ∧ v.checkC = 0 ∧ v.kind = 5 := by
  simp only [right11, rightB, List.all_cons, List.all_nil, Bool.and_true, Bool.and_eq_true, decide_eq_true_eq] at h
  exact ⟨h.1.1, h.1.2, h.2⟩
theorem get_step {p : Path} {k : Nat} {s : ByteArray} {u : V} (h : p[k]? = some s) : V.get (p.drop k) u = (match mfind s u.m with | none => none | some x => V.get (p.drop (k + 1)) x) := by
  rw [drop_at h, V.get]
  cases mfind s u.m <;> rfl
theorem refGets_a (v : V) (p : Path) (hsz : v.size ≤ 2000000000000) (hp : p.length ≤ 2000000000000) : AC Tryz.prog 22 [.agg [.int .i64 (v).kind, .bool (v).b, .int .i64 (v).n, .str (v).s, .lst .any 6 (rowsV (v).l), .lst .any 7 (rowsM (v).m)], .lst .any 1 (rowsP p)] (getAV (v.get p)) := by
  refine AC.enter Tryz.func22 a_ref02_Get_ok a_ref02_Get_cb (by rfl) fun E hE => ?_
  show AK _ _ _ [.c b_ref02_Get] _ _
  rw [b_ref02_Get]
  (repeat (first | apply kS | apply kB | apply kL | apply kN | (refine kR follows_any [] (by rfl) ?_ ?_; first | exact kT1 | exact kT2 | exact kT3 | exact kT4)))
  refine AK.loopI (fun i : Nat × V => (frOf [(1, .lst .any 1 (rowsP p)), (2, .ptr 2 0), (4, .ptr 4 0), (6, .int .i64 i.1)], ⟨boxOf [(2, [.int .i64 i.2.kind, .bool i.2.b, .int .i64 i.2.n, .str i.2.s, .lst .any 6 (rowsV i.2.l), .lst .any 7 (rowsM i.2.m)], false), (4, [.int .i64 0, .bool false, .int .i64 0, .str ⟨#[]⟩, .lst .nil 6 [], .lst .nil 7 []], false)], fun _ => 0⟩))
    (fun i => i.1 ≤ p.length ∧ i.2.size ≤ 2000000000000 ∧ V.get (p.drop i.1) i.2 = v.get p) (fun i => p.length - i.1) (0, v) ⟨by simp, hsz, rfl⟩ (Weak.intro ⟨⟨_, rfl, .refl _⟩, ⟨_, rfl, .refl _⟩, ⟨_, rfl, .refl _⟩, ⟨_, rfl, .refl _⟩, trivial⟩ ⟨⟨_, rfl, leL_refl _⟩, ⟨_, rfl, leL_refl _⟩, trivial⟩ rfl rfl) fun ⟨k, u⟩ ⟨hk, hu, hr⟩ => ?_
  dsimp only at hk hu hr
  (repeat (first | apply kS | apply kB | apply kL | apply kN | (refine kR follows_any [] (by rfl) ?_ ?_; first | exact kT1 | exact kT2 | exact kT3 | exact kT4)))
  refine AK.cond (by rfl) (fun hb => ?_) (fun hb => ?_)
  · have hlt : k < p.length := by simpa [rowsP_len] using hb
    obtain ⟨s, hg⟩ : ∃ x, p[k]? = some x := ⟨_, List.getElem?_eq_getElem hlt⟩
    rw [get_step hg] at hr
    cases hf : mfind s u.m with
    | none =>
      rw [hf] at hr
      (repeat (first | apply kS | apply kB | apply kL | apply kN | (refine kR follows_any [] (by rfl) ?_ ?_; first | exact kT1 | exact kT2 | exact kT3 | exact kT4)))
      refine kR follows_any [.c [.str s], .v (.tup [.agg [.int .i64 0, .bool false, .int .i64 0, .str ⟨#[]⟩, .lst .any 6 [], .lst .any 7 []], .bool false])] (by rfl) ?_ ?_
      · ((repeat' apply And.intro) <;> first | trivial | omega | (simp only [List.length_nil, List.length_cons]; omega) | (intro hgd; first | (rw [hgd]; rfl) | (refine ⟨?_, by repeat (first | exact trivial | refine ⟨hgd, ?_⟩)⟩; (repeat' apply And.intro) <;> first | trivial | omega | (intro h2; rw [hgd, h2]; rfl) | skip)) | skip)
        · exact rowsP_at hg
        · exact refGet_none hu hf
      (repeat (first | apply kS | apply kB | apply kL | apply kN | (refine kR follows_any [] (by rfl) ?_ ?_; first | exact kT1 | exact kT2 | exact kT3 | exact kT4)))
      refine AK.cond (by rfl) (fun hb => ?_) (fun hb => ?_)
      · (repeat (first | apply kS | apply kB | apply kL | apply kN | (refine kR follows_any [] (by rfl) ?_ ?_; first | exact kT1 | exact kT2 | exact kT3 | exact kT4)))
        refine AK.ret ⟨_, rfl, ?_⟩
        rw [← hr]
        rfl
      · cases hb
    | some x =>
      rw [hf] at hr
      (repeat (first | apply kS | apply kB | apply kL | apply kN | (refine kR follows_any [] (by rfl) ?_ ?_; first | exact kT1 | exact kT2 | exact kT3 | exact kT4)))
      refine kR follows_any [.c [.str s], .v (.tup [.agg [.int .i64 (x).kind, .bool (x).b, .int .i64 (x).n, .str (x).s, .lst .any 6 (rowsV (x).l), .lst .any 7 (rowsM (x).m)], .bool true])] (by rfl) ?_ ?_
      · ((repeat' apply And.intro) <;> first | trivial | omega | (simp only [List.length_nil, List.length_cons]; omega) | (intro hgd; first | (rw [hgd]; rfl) | (refine ⟨?_, by repeat (first | exact trivial | refine ⟨hgd, ?_⟩)⟩; (repeat' apply And.intro) <;> first | trivial | omega | (intro h2; rw [hgd, h2]; rfl) | skip)) | skip)
        · exact rowsP_at hg
        · exact refGet_some hu hf
      (repeat (first | apply kS | apply kB | apply kL | apply kN | (refine kR follows_any [] (by rfl) ?_ ?_; first | exact kT1 | exact kT2 | exact kT3 | exact kT4)))
      refine AK.cond (by rfl) (fun hb => ?_) (fun hb => ?_)
      · cases hb
      · (repeat (first | apply kS | apply kB | apply kL | apply kN | (refine kR follows_any [] (by rfl) ?_ ?_; first | exact kT1 | exact kT2 | exact kT3 | exact kT4)))
        have hx := mfind_size hf
        exact AK.lp ⟨(k + 1, x), ⟨by dsimp only; omega, by dsimp only; omega, hr⟩, Weak.intro ⟨⟨_, rfl, .refl _⟩, ⟨_, rfl, .refl _⟩, ⟨_, rfl, .refl _⟩, ⟨_, rfl, .of_eq (congrArg _ (by first | omega | (rw [wrap_in (by omega) (by omega)]; omega)))⟩, trivial⟩ ⟨⟨_, rfl, leL_refl _⟩, ⟨_, rfl, leL_refl _⟩, trivial⟩ rfl rfl, by dsimp only; omega⟩
  · have hlt : k = p.length := by have : p.length ≤ k := by simpa [rowsP_len] using hb
                                  omega
    subst hlt
    rw [List.drop_length, V.get] at hr
    refine AK.exit rfl ?_
    (repeat (first | apply kS | apply kB | apply kL | apply kN | (refine kR follows_any [] (by rfl) ?_ ?_; first | exact kT1 | exact kT2 | exact kT3 | exact kT4)))
    refine AK.ret ⟨_, rfl, ?_⟩
    rw [← hr]
    rfl
theorem refGets_none {v : V} {p : Path} (hsz : v.size ≤ 2000000000000) (hp : p.length ≤ 2000000000000) (h : v.get p = none) : AC Tryz.prog 22 [.agg [.int .i64 (v).kind, .bool (v).b, .int .i64 (v).n, .str (v).s, .lst .any 6 (rowsV (v).l), .lst .any 7 (rowsM (v).m)], .lst .any 1 (rowsP p)] nullAV := by
  have := refGets_a v p hsz hp
  rw [h] at this
  exact this
theorem refGets_some {v : V} {p : Path} (hsz : v.size ≤ 2000000000000) (hp : p.length ≤ 2000000000000) {x : V} (h : v.get p = some x) : AC Tryz.prog 22 [.agg [.int .i64 (v).kind, .bool (v).b, .int .i64 (v).n, .str (v).s, .lst .any 6 (rowsV (v).l), .lst .any 7 (rowsM (v).m)], .lst .any 1 (rowsP p)] (.tup [.agg [.int .i64 (x).kind, .bool (x).b, .int .i64 (x).n, .str (x).s, .lst .any 6 (rowsV (x).l), .lst .any 7 (rowsM (x).m)], .bool true]) := by
  have := refGets_a v p hsz hp
  rw [h] at this
  exact this
theorem good_tx_all : ∀ (n : Nat) (v : V), v.size ≤ n → v.good → v.tx := by
  intro n
  induction n with
  | zero => intro v h; have := v.size_pos; omega
  | succ n ih =>
    intro v hn hg
    have e := v.size_eq
    obtain ⟨_, g2, g3, g4, _⟩ := v.good_eq.1 hg
    refine (V.tx_eq v).2 ⟨?_, (txL_iff _).2 fun x hx => ?_, (txM_iff _).2 fun p hp => ?_⟩
    · simp only [textB, Bool.and_eq_true, decide_eq_true_eq] at g2
      omega
    · have := mem_sizeL hx
      exact ih x (by omega) (good_l hg hx)
    · have := mem_sizeM hp
      have hk := good_key hg hp
      simp only [keyB, Bool.and_eq_true, decide_eq_true_eq] at hk
      exact ⟨by omega, ih p.2 (by omega) (good_m hg hp)⟩
theorem V.good.tx {v : V} (h : v.good) : v.tx := good_tx_all v.size v (Nat.le_refl _) h
end Go.Proofs.YtfnpjakekeojoaaGreatDoor
