/-
  Begins and Leaves of the program's paths, walked.
-/
import Derived.Test.YtamecdecpmklmaaPr3
namespace Go.Proofs.Ytamecdecpmklmaa
set_option linter.unusedSimpArgs false
set_option linter.unusedVariables false
open Go.RowKit

theorem equal_a (l w : Path) (hl : l.length ≤ 2000000000000) : AC Try.prog 45 [.lst .any 1 (rowsP l), .lst .any 1 (rowsP w)] (.bool (decide (l = w))) := by
  refine AC.enter Try.func45 a_slices_Equal_string_ok a_slices_Equal_string_cb (by rfl) fun E hE => ?_
  show AK _ _ _ [.c b_slices_Equal_string] _ _
  rw [b_slices_Equal_string]
  (repeat (first | apply AK.seq | apply AK.block | apply AK.blk | apply AK.skip | (refine AK.reg follows_any (rs := []) (by rfl) ?_ ?_; first | exact trivial | exact ⟨trivial, trivial⟩ | exact ⟨trivial, trivial, trivial⟩ | exact ⟨trivial, trivial, trivial, trivial⟩ | fail) | fail))
  refine AK.cond (by rfl) (fun hb => ?_) (fun hb => ?_)
  · have he : l ≠ w := by
      rintro rfl
      simp at hb
    (repeat (first | apply AK.seq | apply AK.block | apply AK.blk | apply AK.skip | (refine AK.reg follows_any (rs := []) (by rfl) ?_ ?_; first | exact trivial | exact ⟨trivial, trivial⟩ | exact ⟨trivial, trivial, trivial⟩ | exact ⟨trivial, trivial, trivial, trivial⟩ | fail) | fail))
    refine AK.ret ⟨_, rfl, ?_⟩
    rw [decide_eq_false he]
    rfl
  have he : l.length = w.length := by
    simp only [rowsP_len, Bool.not_eq_false', decide_eq_true_eq] at hb
    omega
  (repeat (first | apply AK.seq | apply AK.block | apply AK.blk | apply AK.skip | (refine AK.reg follows_any (rs := []) (by rfl) ?_ ?_; first | exact trivial | exact ⟨trivial, trivial⟩ | exact ⟨trivial, trivial, trivial⟩ | exact ⟨trivial, trivial, trivial, trivial⟩ | fail) | fail))
  refine AK.loopI (fun k : Nat => (frOf [(0, .lst .any 1 (rowsP l)), (1, .lst .any 1 (rowsP w)), (12, .int .i64 (rowsP l).length), (13, .int .i64 k)], ⟨boxOf [], fun _ => 0⟩)) (fun k => k ≤ l.length ∧ l.take k = w.take k) (fun k => l.length - k) 0 ⟨by simp, rfl⟩ (Weak.intro ⟨⟨_, rfl, .refl _⟩, ⟨_, rfl, .refl _⟩, ⟨_, rfl, .refl _⟩, ⟨_, rfl, .refl _⟩, trivial⟩ trivial rfl rfl) fun k ⟨hk, hr⟩ => ?_
  (repeat (first | apply AK.seq | apply AK.block | apply AK.blk | apply AK.skip | (refine AK.reg follows_any (rs := []) (by rfl) ?_ ?_; first | exact trivial | exact ⟨trivial, trivial⟩ | exact ⟨trivial, trivial, trivial⟩ | exact ⟨trivial, trivial, trivial, trivial⟩ | fail) | fail))
  refine AK.cond (by rfl) (fun hb => ?_) (fun hb => ?_)
  · have hlt : k < l.length := by simpa [rowsP_len] using hb
    obtain ⟨s, hg⟩ : ∃ x, l[k]? = some x := ⟨_, List.getElem?_eq_getElem hlt⟩
    obtain ⟨t, hy⟩ : ∃ x, w[k]? = some x := ⟨_, List.getElem?_eq_getElem (by omega)⟩
    (repeat (first | apply AK.seq | apply AK.block | apply AK.blk | apply AK.skip | (refine AK.reg follows_any (rs := []) (by rfl) ?_ ?_; first | exact trivial | exact ⟨trivial, trivial⟩ | exact ⟨trivial, trivial, trivial⟩ | exact ⟨trivial, trivial, trivial, trivial⟩ | fail) | fail))
    refine AK.reg follows_any (rs := [.c [.str s], .c [.str t]]) (by rfl) ?_ ?_
    · ((repeat' apply And.intro) <;> first | trivial | omega | (simp only [List.length_nil, List.length_cons]; omega) | (intro hgd; first | (rw [hgd]; rfl) | (refine ⟨?_, by repeat (first | exact trivial | refine ⟨hgd, ?_⟩)⟩; (repeat' apply And.intro) <;> first | trivial | omega | (intro h2; rw [hgd, h2]; rfl) | skip)) | skip)
      · exact rowsP_at hg
      · exact rowsP_at hy
    refine AK.cond (by rfl) (fun hb => ?_) (fun hb => ?_)
    · have hne : s ≠ t := by simpa using hb
      (repeat (first | apply AK.seq | apply AK.block | apply AK.blk | apply AK.skip | (refine AK.reg follows_any (rs := []) (by rfl) ?_ ?_; first | exact trivial | exact ⟨trivial, trivial⟩ | exact ⟨trivial, trivial, trivial⟩ | exact ⟨trivial, trivial, trivial, trivial⟩ | fail) | fail))
      refine AK.ret ⟨_, rfl, ?_⟩
      rw [decide_eq_false (show l ≠ w by rintro rfl; rw [hg] at hy; exact hne (Option.some.inj hy))]
      rfl
    · have hne : s = t := by simpa using hb
      (repeat (first | apply AK.seq | apply AK.block | apply AK.blk | apply AK.skip | (refine AK.reg follows_any (rs := []) (by rfl) ?_ ?_; first | exact trivial | exact ⟨trivial, trivial⟩ | exact ⟨trivial, trivial, trivial⟩ | exact ⟨trivial, trivial, trivial, trivial⟩ | fail) | fail))
      exact AK.lp ⟨k + 1, ⟨by omega, take_more hr hg hy hne⟩, Weak.intro ⟨⟨_, rfl, .refl _⟩, ⟨_, rfl, .refl _⟩, ⟨_, rfl, .refl _⟩, ⟨_, rfl, .of_eq (congrArg _ (by first | omega | (rw [wrap_in (by omega) (by omega)]; omega)))⟩, trivial⟩ trivial rfl rfl, by omega⟩
  · have hlt : k = l.length := by have : l.length ≤ k := by simpa [rowsP_len] using hb
                                  omega
    subst hlt
    have e7 : l = w := by rw [List.take_length, he, List.take_length] at hr; exact hr
    refine AK.exit rfl ?_
    (repeat (first | apply AK.seq | apply AK.block | apply AK.blk | apply AK.skip | (refine AK.reg follows_any (rs := []) (by rfl) ?_ ?_; first | exact trivial | exact ⟨trivial, trivial⟩ | exact ⟨trivial, trivial, trivial⟩ | exact ⟨trivial, trivial, trivial, trivial⟩ | fail) | fail))
    refine AK.ret ⟨_, rfl, ?_⟩
    rw [decide_eq_true e7]
    rfl
theorem begins_iff : ∀ {l w : Path}, begins l w = (decide ((l.length : Int) ≥ w.length) && decide (l.take w.length = w))
  | l, [] => by simp [begins]
  | [], b :: w => by simp [begins]
  | a :: l, b :: w => by
    rw [begins, begins_iff, Bool.eq_iff_iff]
    simp
    constructor
    · rintro ⟨h1, h2, h3⟩; exact ⟨h2, h1, h3⟩
    · rintro ⟨h1, h2, h3⟩; exact ⟨h2, h1, h3⟩
theorem rowsP_take' (l w : Path) : List.drop (0 : Int).toNat (List.take (((rowsP w).length : Int)).toNat (rowsP l)) = rowsP (l.take w.length) := by
  simp [rowsP, List.map_take]
theorem pathBegins_a (l w : Path) (hl : l.length ≤ 2000000000000) : AC Try.prog 29 [.lst .any 1 (rowsP l), .lst .any 1 (rowsP w)] (.bool (begins l w)) := by
  refine AC.enter Try.func29 a_path_Begins_ok a_path_Begins_cb (by rfl) fun E hE => ?_
  show AK _ _ _ [.c b_path_Begins] _ _
  rw [b_path_Begins]
  (repeat (first | apply AK.seq | apply AK.block | apply AK.blk | apply AK.skip | (refine AK.reg follows_any (rs := []) (by rfl) ?_ ?_; first | exact trivial | exact ⟨trivial, trivial⟩ | exact ⟨trivial, trivial, trivial⟩ | exact ⟨trivial, trivial, trivial, trivial⟩ | fail) | fail))
  refine AK.reg follows_any (rs := [.v (.bool (decide (l.take w.length = w)))]) (by rfl) ?_ ?_
  · ((repeat' apply And.intro) <;> first | trivial | omega | (simp only [List.length_nil, List.length_cons]; omega) | (intro hgd; first | (rw [hgd]; rfl) | (refine ⟨?_, by repeat (first | exact trivial | refine ⟨hgd, ?_⟩)⟩; (repeat' apply And.intro) <;> first | trivial | omega | (intro h2; rw [hgd, h2]; rfl) | skip)) | skip)
    · simpa [gd] using hgd
    · rw [rowsP_take']
      exact equal_a _ w (by rw [List.length_take]; omega)
  (repeat (first | apply AK.seq | apply AK.block | apply AK.blk | apply AK.skip | (refine AK.reg follows_any (rs := []) (by rfl) ?_ ?_; first | exact trivial | exact ⟨trivial, trivial⟩ | exact ⟨trivial, trivial, trivial⟩ | exact ⟨trivial, trivial, trivial, trivial⟩ | fail) | fail))
  refine AK.ret ⟨_, rfl, ?_⟩
  rw [begins_iff, rowsP_len, rowsP_len]
  rfl

set_option maxRecDepth 4000 in
theorem pathLeaves_a (hc : CloneOk) (n : Nat) : ∀ v : V, v.size ≤ n → v.good → v.size ≤ 1000000 → AC Try.prog 25 [.agg [.int .i64 (v).kind, .bool (v).b, .int .i64 (v).n, .str (v).s, .lst .any 6 (rowsV (v).l), .lst .any 7 (rowsM (v).m)]] (.lst .any 7 (rowsLf v.leaves)) := by
  induction n with
  | zero => intro v h; have := v.size_pos; omega
  | succ n ih =>
    intro v hn hgd hsz
    have hve := v.size_eq
    have hde := v.depth_eq
    have hds := v.depth_le_size'
    have hlm := len_le_sizeM v.m
    have hle := V.leaves_eq v
    refine AC.enter Try.func25 a_path_Leaves_ok a_path_Leaves_cb (by rfl) fun E hE => ?_
    show AK _ _ _ [.c b_path_Leaves] _ _
    rw [b_path_Leaves]
    (repeat (first | apply AK.seq | apply AK.block | apply AK.blk | apply AK.skip | (refine AK.reg follows_any (rs := []) (by rfl) ?_ ?_; first | exact trivial | exact ⟨trivial, trivial⟩ | exact ⟨trivial, trivial, trivial⟩ | exact ⟨trivial, trivial, trivial, trivial⟩ | fail) | fail))
    refine AK.reg follows_any (rs := []) (by rfl) ?_ ?_
    · ((repeat' apply And.intro) <;> first | trivial | omega | (simp only [List.length_nil, List.length_cons]; omega) | (intro hgd; first | (rw [hgd]; rfl) | (refine ⟨?_, by repeat (first | exact trivial | refine ⟨hgd, ?_⟩)⟩; (repeat' apply And.intro) <;> first | trivial | omega | (intro h2; rw [hgd, h2]; rfl) | skip)) | skip)
    refine AK.cond (by rfl) (fun hb => ?_) (fun hb => ?_)
    · have h0 : v.m = [] := by
        by_cases hk : v.kind = 5
        · simp only [hk, rowsM_len] at hb
          simpa using hb
        · exact good_nomap hgd hk
      rw [h0] at hle
      simp at hle
      rw [hle]
      (repeat (first | apply AK.seq | apply AK.block | apply AK.blk | apply AK.skip | (refine AK.reg follows_any (rs := []) (by rfl) ?_ ?_; first | exact trivial | exact ⟨trivial, trivial⟩ | exact ⟨trivial, trivial, trivial⟩ | exact ⟨trivial, trivial, trivial, trivial⟩ | fail) | fail))
      refine AK.reg follows_any (rs := [.v (.agg [.int .i64 (v).kind, .bool (v).b, .int .i64 (v).n, .str (v).s, .lst .any 6 (rowsV (v).l), .lst .any 7 (rowsM (v).m)])]) (by rfl) ?_ ?_
      · ((repeat' apply And.intro) <;> first | trivial | omega | (simp only [List.length_nil, List.length_cons]; omega) | (intro hgd; first | (rw [hgd]; rfl) | (refine ⟨?_, by repeat (first | exact trivial | refine ⟨hgd, ?_⟩)⟩; (repeat' apply And.intro) <;> first | trivial | omega | (intro h2; rw [hgd, h2]; rfl) | skip)) | skip)
        · exact hc v (by omega)
      (repeat (first | apply AK.seq | apply AK.block | apply AK.blk | apply AK.skip | (refine AK.reg follows_any (rs := []) (by rfl) ?_ ?_; first | exact trivial | exact ⟨trivial, trivial⟩ | exact ⟨trivial, trivial, trivial⟩ | exact ⟨trivial, trivial, trivial, trivial⟩ | fail) | fail))
      refine AK.ret ⟨_, rfl, ?_⟩
      simp only [rowsLf, List.map_cons, List.map_nil, cellsV_eq]
      rfl
    have h0 : v.m ≠ [] := by
      rintro h
      simp [h, rowsM] at hb
    rw [if_neg (by simpa using h0)] at hle
    (repeat (first | apply AK.seq | apply AK.block | apply AK.blk | apply AK.skip | (refine AK.reg follows_any (rs := []) (by rfl) ?_ ?_; first | exact trivial | exact ⟨trivial, trivial⟩ | exact ⟨trivial, trivial, trivial⟩ | exact ⟨trivial, trivial, trivial, trivial⟩ | fail) | fail))
    refine AK.loopI (fun i : Nat × (Nat → Nat) => (frOf [(3, .lst (.own 3 (i.2 3)) 7 (rowsLf (leavesM (v.m.take i.1)))), (22, .lst .any 7 (rowsM v.m)), (23, .int .i64 (rowsM v.m).length), (24, .int .i64 i.1)], ⟨boxOf [], i.2⟩)) (fun i => i.1 ≤ v.m.length) (fun i => v.m.length - i.1) (0, fun _ => 0) (by simp) (Weak.intro ⟨⟨_, rfl, .one (.own _ _ _ _)⟩, ⟨_, rfl, .refl _⟩, ⟨_, rfl, .refl _⟩, ⟨_, rfl, .refl _⟩, trivial⟩ trivial rfl rfl) fun ⟨k, r⟩ hk => ?_
    dsimp only at hk
    (repeat (first | apply AK.seq | apply AK.block | apply AK.blk | apply AK.skip | (refine AK.reg follows_any (rs := []) (by rfl) ?_ ?_; first | exact trivial | exact ⟨trivial, trivial⟩ | exact ⟨trivial, trivial, trivial⟩ | exact ⟨trivial, trivial, trivial, trivial⟩ | fail) | fail))
    refine AK.cond (by rfl) (fun hb => ?_) (fun hb => ?_)
    · have hlt : k < v.m.length := by simpa [rowsM_len] using hb
      obtain ⟨⟨y, x⟩, hg⟩ : ∃ x, v.m[k]? = some x := ⟨_, List.getElem?_eq_getElem hlt⟩
      have hx := sizeM_take hg
      have hx2 := sizeM_take_le v.m (k + 1)
      have hxl := x.leaves_len
      have hkl := leavesM_take_le (m := v.m.take k)
      have hxd := x.depth_le_size'
      have hxg := good_m hgd (List.mem_of_getElem? hg)
      (repeat (first | apply AK.seq | apply AK.block | apply AK.blk | apply AK.skip | (refine AK.reg follows_any (rs := []) (by rfl) ?_ ?_; first | exact trivial | exact ⟨trivial, trivial⟩ | exact ⟨trivial, trivial, trivial⟩ | exact ⟨trivial, trivial, trivial, trivial⟩ | fail) | fail))
      refine AK.reg follows_any (rs := [.c (.str y :: [.int .i64 (x).kind, .bool (x).b, .int .i64 (x).n, .str (x).s, .lst .any 6 (rowsV (x).l), .lst .any 7 (rowsM (x).m)])]) (by rfl) ?_ ?_
      · ((repeat' apply And.intro) <;> first | trivial | omega | (simp only [List.length_nil, List.length_cons]; omega) | (intro hgd; first | (rw [hgd]; rfl) | (refine ⟨?_, by repeat (first | exact trivial | refine ⟨hgd, ?_⟩)⟩; (repeat' apply And.intro) <;> first | trivial | omega | (intro h2; rw [hgd, h2]; rfl) | skip)) | skip)
        · exact rowsM_at hg
      (repeat (first | apply AK.seq | apply AK.block | apply AK.blk | apply AK.skip | (refine AK.reg follows_any (rs := []) (by rfl) ?_ ?_; first | exact trivial | exact ⟨trivial, trivial⟩ | exact ⟨trivial, trivial, trivial⟩ | exact ⟨trivial, trivial, trivial, trivial⟩ | fail) | fail))
      refine AK.reg follows_any (rs := [.v (.lst .any 7 (rowsLf x.leaves))]) (by rfl) ?_ ?_
      · ((repeat' apply And.intro) <;> first | trivial | omega | (simp only [List.length_nil, List.length_cons]; omega) | (intro hgd; first | (rw [hgd]; rfl) | (refine ⟨?_, by repeat (first | exact trivial | refine ⟨hgd, ?_⟩)⟩; (repeat' apply And.intro) <;> first | trivial | omega | (intro h2; rw [hgd, h2]; rfl) | skip)) | skip)
        · exact ih x (by omega) hxg (by omega)
      (repeat (first | apply AK.seq | apply AK.block | apply AK.blk | apply AK.skip | (refine AK.reg follows_any (rs := []) (by rfl) ?_ ?_; first | exact trivial | exact ⟨trivial, trivial⟩ | exact ⟨trivial, trivial, trivial⟩ | exact ⟨trivial, trivial, trivial, trivial⟩ | fail) | fail))
      refine AK.loopI (fun i : Nat × (Nat → Nat) => (frOf [(3, .lst (.own 3 (i.2 3)) 7 (rowsLf (leavesM (v.m.take k) ++ (x.leaves.take i.1).map fun q => (y :: q.1, q.2)))), (5, .ptr 5 0), (22, .lst .any 7 (rowsM v.m)), (23, .int .i64 (rowsM v.m).length), (24, .int .i64 k), (30, .lst .any 7 (rowsLf x.leaves)), (31, .int .i64 (rowsLf x.leaves).length), (32, .int .i64 i.1)], ⟨boxOf [(5, .str y :: [.int .i64 (x).kind, .bool (x).b, .int .i64 (x).n, .str (x).s, .lst .any 6 (rowsV (x).l), .lst .any 7 (rowsM (x).m)], false)], i.2⟩)) (fun i => i.1 ≤ x.leaves.length) (fun i => x.leaves.length - i.1) (0, r) (by simp) (Weak.intro ⟨⟨_, rfl, .of_eq (by simp)⟩, ⟨_, rfl, .refl _⟩, ⟨_, rfl, .refl _⟩, ⟨_, rfl, .refl _⟩, ⟨_, rfl, .refl _⟩, ⟨_, rfl, .refl _⟩, ⟨_, rfl, .refl _⟩, ⟨_, rfl, .refl _⟩, trivial⟩ ⟨⟨_, rfl, leL_refl _⟩, trivial⟩ rfl rfl) fun ⟨j, r⟩ hj => ?_
      dsimp only at hj
      (repeat (first | apply AK.seq | apply AK.block | apply AK.blk | apply AK.skip | (refine AK.reg follows_any (rs := []) (by rfl) ?_ ?_; first | exact trivial | exact ⟨trivial, trivial⟩ | exact ⟨trivial, trivial, trivial⟩ | exact ⟨trivial, trivial, trivial, trivial⟩ | fail) | fail))
      refine AK.cond (by rfl) (fun hb => ?_) (fun hb => ?_)
      · have hlj : j < x.leaves.length := by simpa [rowsLf_len] using hb
        obtain ⟨⟨p, z⟩, hp⟩ : ∃ q, x.leaves[j]? = some q := ⟨_, List.getElem?_eq_getElem hlj⟩
        have hpl := V.leaf_len (List.mem_of_getElem? hp)
        dsimp only at hpl
        (repeat (first | apply AK.seq | apply AK.block | apply AK.blk | apply AK.skip | (refine AK.reg follows_any (rs := []) (by rfl) ?_ ?_; first | exact trivial | exact ⟨trivial, trivial⟩ | exact ⟨trivial, trivial, trivial⟩ | exact ⟨trivial, trivial, trivial, trivial⟩ | fail) | fail))
        refine AK.reg follows_any (rs := [.c (.lst .any 1 (rowsP p) :: [.int .i64 (z).kind, .bool (z).b, .int .i64 (z).n, .str (z).s, .lst .any 6 (rowsV (z).l), .lst .any 7 (rowsM (z).m)])]) (by rfl) ?_ ?_
        · ((repeat' apply And.intro) <;> first | trivial | omega | (simp only [List.length_nil, List.length_cons]; omega) | (intro hgd; first | (rw [hgd]; rfl) | (refine ⟨?_, by repeat (first | exact trivial | refine ⟨hgd, ?_⟩)⟩; (repeat' apply And.intro) <;> first | trivial | omega | (intro h2; rw [hgd, h2]; rfl) | skip)) | skip)
          · exact rowsLf_at hp
        (repeat (first | apply AK.seq | apply AK.block | apply AK.blk | apply AK.skip | (refine AK.reg follows_any (rs := []) (by rfl) ?_ ?_; first | exact trivial | exact ⟨trivial, trivial⟩ | exact ⟨trivial, trivial, trivial⟩ | exact ⟨trivial, trivial, trivial, trivial⟩ | fail) | fail))
        refine AK.reg follows_any (rs := []) (by rfl) ?_ ?_
        · ((repeat' apply And.intro) <;> first | trivial | omega | (simp only [List.length_nil, List.length_cons]; omega) | (intro hgd; first | (rw [hgd]; rfl) | (refine ⟨?_, by repeat (first | exact trivial | refine ⟨hgd, ?_⟩)⟩; (repeat' apply And.intro) <;> first | trivial | omega | (intro h2; rw [hgd, h2]; rfl) | skip)) | skip)
          all_goals simp only [rowsP_len, rowsLf_len, List.length_append, List.length_nil, List.length_cons, List.length_map, List.length_take]
          all_goals omega
        (repeat (first | apply AK.seq | apply AK.block | apply AK.blk | apply AK.skip | (refine AK.reg follows_any (rs := []) (by rfl) ?_ ?_; first | exact trivial | exact ⟨trivial, trivial⟩ | exact ⟨trivial, trivial, trivial⟩ | exact ⟨trivial, trivial, trivial, trivial⟩ | fail) | fail))
        refine AK.lp ⟨(j + 1, _), by dsimp only; omega, Weak.intro ⟨⟨_, rfl, .of_eq (congrArg (AV.lst _ 7) ?_)⟩, ⟨_, rfl, .refl _⟩, ⟨_, rfl, .refl _⟩, ⟨_, rfl, .refl _⟩, ⟨_, rfl, .refl _⟩, ⟨_, rfl, .refl _⟩, ⟨_, rfl, .refl _⟩, ⟨_, rfl, .of_eq (congrArg _ (by first | omega | (rw [wrap_in (by omega) (by omega)]; omega)))⟩, trivial⟩ ⟨⟨_, rfl, leL_refl _⟩, trivial⟩ rfl rfl, by dsimp only; omega⟩
        rw [take_snoc hp]
        simp only [List.map_append, rowsLf_append, List.append_assoc]
        refine congrArg (rowsLf _ ++ ·) (congrArg (rowsLf _ ++ ·) ?_)
        simp only [rowsLf, rowsP, List.map_cons, List.map_nil, cellsV_eq]
        rfl
      · have hlt : j = x.leaves.length := by have : x.leaves.length ≤ j := by simpa [rowsLf_len] using hb
                                             omega
        subst hlt
        refine AK.exit rfl ?_
        (repeat (first | apply AK.seq | apply AK.block | apply AK.blk | apply AK.skip | (refine AK.reg follows_any (rs := []) (by rfl) ?_ ?_; first | exact trivial | exact ⟨trivial, trivial⟩ | exact ⟨trivial, trivial, trivial⟩ | exact ⟨trivial, trivial, trivial, trivial⟩ | fail) | fail))
        refine AK.lp ⟨(k + 1, _), by dsimp only; omega, Weak.intro ⟨⟨_, rfl, .of_eq (congrArg (AV.lst _ 7) ?_)⟩, ⟨_, rfl, .refl _⟩, ⟨_, rfl, .refl _⟩, ⟨_, rfl, .of_eq (congrArg _ (by first | omega | (rw [wrap_in (by omega) (by omega)]; omega)))⟩, trivial⟩ trivial rfl rfl, by dsimp only; omega⟩
        rw [leavesM_take hg, List.take_length]
    · have hlt : k = v.m.length := by have : v.m.length ≤ k := by simpa [rowsM_len] using hb
                                      omega
      subst hlt
      refine AK.exit rfl ?_
      (repeat (first | apply AK.seq | apply AK.block | apply AK.blk | apply AK.skip | (refine AK.reg follows_any (rs := []) (by rfl) ?_ ?_; first | exact trivial | exact ⟨trivial, trivial⟩ | exact ⟨trivial, trivial, trivial⟩ | exact ⟨trivial, trivial, trivial, trivial⟩ | fail) | fail))
      refine AK.ret ⟨_, rfl, ?_⟩
      rw [hle, List.take_length]
      rfl
end Go.Proofs.Ytamecdecpmklmaa
