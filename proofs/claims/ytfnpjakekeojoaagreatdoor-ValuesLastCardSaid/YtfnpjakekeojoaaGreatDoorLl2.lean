/-
  The statement that what is set last stands, walked.
-/
import Derived.Test.YtfnpjakekeojoaaGreatDoorLl1
namespace Go.Proofs.YtfnpjakekeojoaaGreatDoor
set_option linter.unusedSimpArgs false
set_option linter.unusedVariables false
open Go.RowKit

theorem good_tx_all : ∀ (n : Nat) (v : V), v.size ≤ n → v.good → v.tx := by
  intro n
  induction n with
  | zero => intro v h; have := v.size_pos; omega
  | succ n ih =>
    intro v hn hg
    have e := v.size_eq
    obtain ⟨_, g2, g3, g4, _⟩ := v.good_eq.1 hg
    refine (V.tx_eq v).2 ⟨?_, (txL_iff _).2 fun x hx => ?_, (txM_iff _).2 fun p hp => ?_⟩
    · simp only [textB, Bool.and_eq_true, decide_eq_true_eq] at g2
      omega
    · have := mem_sizeL hx
      exact ih x (by omega) (good_l hg hx)
    · have := mem_sizeM hp
      have hk := good_key hg hp
      simp only [keyB, Bool.and_eq_true, decide_eq_true_eq] at hk
      exact ⟨by omega, ih p.2 (by omega) (good_m hg hp)⟩
theorem V.good.tx {v : V} (h : v.good) : v.tx := good_tx_all v.size v (Nat.le_refl _) h
theorem itB_len (n : Int) (h1 : -9223372036854775808 ≤ n) (h2 : n ≤ 9223372036854775807) : (itB n).size ≤ 20 := by
  have hd := decD_len 18 n.natAbs (by have : (10 : Nat) ^ 19 = 10000000000000000000 := by decide
                                      omega)
  show (Lib.itoa n).length ≤ 20
  rw [Lib.itoa]
  split
  · rw [List.length_cons]; omega
  · rw [show n.toNat = n.natAbs by omega]; omega
set_option maxRecDepth 8000 in
set_option maxHeartbeats 2000000 in
theorem valuesLast_a (v : V) (l : List ByteArray) (a b : Int) (hsb : v.sb) (hlb : ∀ s ∈ l, s.size ≤ 140737488355328)
    (ha1 : -9223372036854775808 ≤ a) (ha2 : a ≤ 9223372036854775807) (hb1 : -9223372036854775808 ≤ b) (hb2 : b ≤ 9223372036854775807) :
    AC Tryz.prog 4 [.agg [.int .i64 (v).kind, .bool (v).b, .int .i64 (v).n, .str (v).s, .lst .any 6 (rowsV (v).l), .lst .any 7 (rowsM (v).m)], .lst .any 1 (rowsP l), .int .i64 a, .int .i64 b] (.bool true) := by
  have hA := awake_a
  have hR := right11_a v hsb
  have hlen := rowsP_len l
  refine AC.enter Tryz.func4 a_law11_ValuesLast_ok a_law11_ValuesLast_cb (by rfl) fun E hE => ?_
  show AK _ _ _ [.c b_law11_ValuesLast] _ _
  rw [b_law11_ValuesLast]
  (repeat (first | apply AK.seq | apply AK.block | apply AK.blk | apply AK.skip | (refine AK.reg follows_any (rs := []) (by rfl) ?_ ?_; first | exact trivial | exact ⟨trivial, trivial⟩ | exact ⟨trivial, trivial, trivial⟩ | exact ⟨trivial, trivial, trivial, trivial⟩ | fail) | fail))
  refine AK.reg follows_any (rs := [.v (.bool (right11 v)), .v (.int .i64 v.depth)]) (by rfl) ?_ ?_
  · ((repeat' apply And.intro) <;> first | trivial | omega | (simp only [List.length_nil, List.length_cons]; omega) | (intro hgd; first | (rw [hgd]; rfl) | (refine ⟨?_, by repeat (first | exact trivial | refine ⟨hgd, ?_⟩)⟩; (repeat' apply And.intro) <;> first | trivial | omega | (intro h2; rw [hgd, h2]; rfl) | skip)) | skip)
    · have hr : right11 v = true := by
        cases h : right11 v
        · simp [gd, h] at hgd
        · rfl
      have := V.light_size (right11_iff hr).1
      exact treeDepth_a v.size v (Nat.le_refl _) (by omega)
  refine AK.cond (by rfl) (fun hb => ?_) (fun hb => ?_)
  · (repeat (first | apply AK.seq | apply AK.block | apply AK.blk | apply AK.skip | (refine AK.reg follows_any (rs := []) (by rfl) ?_ ?_; first | exact trivial | exact ⟨trivial, trivial⟩ | exact ⟨trivial, trivial, trivial⟩ | exact ⟨trivial, trivial, trivial, trivial⟩ | fail) | fail))
    refine AK.reg follows_any (rs := [.v (.bool true)]) (by rfl) ?_ ?_
    · ((repeat' apply And.intro) <;> first | trivial | omega | (simp only [List.length_nil, List.length_cons]; omega) | (intro hgd; first | (rw [hgd]; rfl) | (refine ⟨?_, by repeat (first | exact trivial | refine ⟨hgd, ?_⟩)⟩; (repeat' apply And.intro) <;> first | trivial | omega | (intro h2; rw [hgd, h2]; rfl) | skip)) | skip)
    (repeat (first | apply AK.seq | apply AK.block | apply AK.blk | apply AK.skip | (refine AK.reg follows_any (rs := []) (by rfl) ?_ ?_; first | exact trivial | exact ⟨trivial, trivial⟩ | exact ⟨trivial, trivial, trivial⟩ | exact ⟨trivial, trivial, trivial, trivial⟩ | fail) | fail))
    refine AK.ret ⟨_, rfl, ?_⟩
    rfl
  have hpre : right11 v = true ∧ l ≠ [] ∧ l.length ≤ 6 ∧ v.depth ≤ 8 := by
    simp only [Bool.or_eq_false_iff, Bool.not_eq_false', decide_eq_false_iff_not] at hb
    obtain ⟨⟨⟨h1, h2⟩, h3⟩, h4⟩ := hb
    refine ⟨h1, fun e => ?_, by omega, by omega⟩
    subst e
    exact h2 rfl
  obtain ⟨hr, hne, hl6, hd⟩ := hpre
  obtain ⟨r1, r2, r3⟩ := right11_iff hr
  obtain ⟨hg, hz, _⟩ := V.check_good r2
  (repeat (first | apply AK.seq | apply AK.block | apply AK.blk | apply AK.skip | (refine AK.reg follows_any (rs := []) (by rfl) ?_ ?_; first | exact trivial | exact ⟨trivial, trivial⟩ | exact ⟨trivial, trivial, trivial⟩ | exact ⟨trivial, trivial, trivial, trivial⟩ | fail) | fail))
  refine AK.loopI (fun k : Nat => (frOf [(1, .lst .any 1 (rowsP l)), (2, .int .i64 a), (3, .int .i64 b), (4, .ptr 4 0), (9, .str (joinB (l.take k))), (41, .lst .any 1 (rowsP l)), (42, .int .i64 (rowsP l).length), (43, .int .i64 k)], ⟨boxOf [(4, [.int .i64 (v).kind, .bool (v).b, .int .i64 (v).n, .str (v).s, .lst .any 6 (rowsV (v).l), .lst .any 7 (rowsM (v).m)], false)], fun _ => 0⟩))
    (fun k => k ≤ l.length ∧ ∀ t ∈ l.take k, wdB t = true ∧ t.size ≤ 100) (fun k => l.length - k) 0 ⟨by omega, by simp⟩ (Weak.intro ⟨⟨_, rfl, .refl _⟩, ⟨_, rfl, .refl _⟩, ⟨_, rfl, .refl _⟩, ⟨_, rfl, .refl _⟩, ⟨_, rfl, .of_eq rfl⟩, ⟨_, rfl, .refl _⟩, ⟨_, rfl, .refl _⟩, ⟨_, rfl, .refl _⟩, trivial⟩ ⟨⟨_, rfl, leL_refl _⟩, trivial⟩ rfl rfl) fun k ⟨hk, hw⟩ => ?_
  (repeat (first | apply AK.seq | apply AK.block | apply AK.blk | apply AK.skip | (refine AK.reg follows_any (rs := []) (by rfl) ?_ ?_; first | exact trivial | exact ⟨trivial, trivial⟩ | exact ⟨trivial, trivial, trivial⟩ | exact ⟨trivial, trivial, trivial, trivial⟩ | fail) | fail))
  refine AK.cond (by rfl) (fun hb => ?_) (fun hb => ?_)
  · have hlt : k < l.length := by simpa [rowsP_len] using hb
    obtain ⟨w, hgw⟩ : ∃ x, l[k]? = some x := ⟨_, List.getElem?_eq_getElem hlt⟩
    have hwm := hlb w (List.mem_of_getElem? hgw)
    have hW := refWord_a w hwm
    (repeat (first | apply AK.seq | apply AK.block | apply AK.blk | apply AK.skip | (refine AK.reg follows_any (rs := []) (by rfl) ?_ ?_; first | exact trivial | exact ⟨trivial, trivial⟩ | exact ⟨trivial, trivial, trivial⟩ | exact ⟨trivial, trivial, trivial, trivial⟩ | fail) | fail))
    refine AK.reg follows_any (rs := [.c [.str w]]) (by rfl) ?_ ?_
    · ((repeat' apply And.intro) <;> first | trivial | omega | (simp only [List.length_nil, List.length_cons]; omega) | (intro hgd; first | (rw [hgd]; rfl) | (refine ⟨?_, by repeat (first | exact trivial | refine ⟨hgd, ?_⟩)⟩; (repeat' apply And.intro) <;> first | trivial | omega | (intro h2; rw [hgd, h2]; rfl) | skip)) | skip)
      · exact rowsP_at hgw
    (repeat (first | apply AK.seq | apply AK.block | apply AK.blk | apply AK.skip | (refine AK.reg follows_any (rs := []) (by rfl) ?_ ?_; first | exact trivial | exact ⟨trivial, trivial⟩ | exact ⟨trivial, trivial, trivial⟩ | exact ⟨trivial, trivial, trivial, trivial⟩ | fail) | fail))
    refine AK.reg follows_any (rs := [.v (.bool (wdB w))]) (by rfl) ?_ ?_
    · ((repeat' apply And.intro) <;> first | trivial | omega | (simp only [List.length_nil, List.length_cons]; omega) | (intro hgd; first | (rw [hgd]; rfl) | (refine ⟨?_, by repeat (first | exact trivial | refine ⟨hgd, ?_⟩)⟩; (repeat' apply And.intro) <;> first | trivial | omega | (intro h2; rw [hgd, h2]; rfl) | skip)) | skip)
    refine AK.cond (by rfl) (fun hb => ?_) (fun hb => ?_)
    · (repeat (first | apply AK.seq | apply AK.block | apply AK.blk | apply AK.skip | (refine AK.reg follows_any (rs := []) (by rfl) ?_ ?_; first | exact trivial | exact ⟨trivial, trivial⟩ | exact ⟨trivial, trivial, trivial⟩ | exact ⟨trivial, trivial, trivial, trivial⟩ | fail) | fail))
      refine AK.reg follows_any (rs := [.v (.bool true)]) (by rfl) ?_ ?_
      · ((repeat' apply And.intro) <;> first | trivial | omega | (simp only [List.length_nil, List.length_cons]; omega) | (intro hgd; first | (rw [hgd]; rfl) | (refine ⟨?_, by repeat (first | exact trivial | refine ⟨hgd, ?_⟩)⟩; (repeat' apply And.intro) <;> first | trivial | omega | (intro h2; rw [hgd, h2]; rfl) | skip)) | skip)
      (repeat (first | apply AK.seq | apply AK.block | apply AK.blk | apply AK.skip | (refine AK.reg follows_any (rs := []) (by rfl) ?_ ?_; first | exact trivial | exact ⟨trivial, trivial⟩ | exact ⟨trivial, trivial, trivial⟩ | exact ⟨trivial, trivial, trivial, trivial⟩ | fail) | fail))
      refine AK.ret ⟨_, rfl, ?_⟩
      rfl
    have z46 : (ByteArray.mk #[46]).size = 1 := rfl
    have hjk : (joinB (l.take k)).size ≤ 257 * 6 := by
      have h1 := joinL_len (l.take k) fun t ht => by have := (hw t ht).2; omega
      rw [List.length_take] at h1
      exact Nat.le_trans h1 (Nat.mul_le_mul_left _ (by omega))
    have hwd : wdB w = true ∧ w.size ≤ 100 := by
      simp only [Bool.or_eq_false_iff, Bool.not_eq_false', decide_eq_false_iff_not] at hb
      exact ⟨hb.1, by omega⟩
    have hnext : ∀ t ∈ l.take (k + 1), wdB t = true ∧ t.size ≤ 100 := fun t ht => by
      rw [take_snoc hgw] at ht
      rcases List.mem_append.1 ht with ht | ht
      · exact hw t ht
      · rw [List.mem_singleton.1 ht]; exact hwd
    (repeat (first | apply AK.seq | apply AK.block | apply AK.blk | apply AK.skip | (refine AK.reg follows_any (rs := []) (by rfl) ?_ ?_; first | exact trivial | exact ⟨trivial, trivial⟩ | exact ⟨trivial, trivial, trivial⟩ | exact ⟨trivial, trivial, trivial, trivial⟩ | fail) | fail))
    refine AK.cond (by rfl) (fun hb => ?_) (fun hb => ?_)
    · have hk0 : l.take k ≠ [] := by
        have : 0 < k := by simpa using hb
        intro e
        have := congrArg List.length e
        rw [List.length_take, Nat.min_eq_left hk] at this
        simp only [List.length_nil] at this
        omega
      have hj : joinB (l.take (k + 1)) = joinB (l.take k) ++ ⟨#[46]⟩ ++ w := by rw [take_snoc hgw, joinB_snoc _ _ hk0]
      generalize joinB (l.take k) = pk at hj hjk ⊢
      (repeat (first | apply AK.seq | apply AK.block | apply AK.blk | apply AK.skip | (refine AK.reg follows_any (rs := []) (by rfl) ?_ ?_; first | exact trivial | exact ⟨trivial, trivial⟩ | exact ⟨trivial, trivial, trivial⟩ | exact ⟨trivial, trivial, trivial, trivial⟩ | fail) | fail))
      refine AK.reg follows_any (rs := []) (by rfl) ?_ ?_
      · ((repeat' apply And.intro) <;> first | omega | (rw [ByteArray.size_append]; omega) | trivial)
      (repeat (first | apply AK.seq | apply AK.block | apply AK.blk | apply AK.skip | (refine AK.reg follows_any (rs := []) (by rfl) ?_ ?_; first | exact trivial | exact ⟨trivial, trivial⟩ | exact ⟨trivial, trivial, trivial⟩ | exact ⟨trivial, trivial, trivial, trivial⟩ | fail) | fail))
      refine AK.reg follows_any (rs := []) (by rfl) ?_ ?_
      · ((repeat' apply And.intro) <;> first | omega | (rw [ByteArray.size_append]; omega) | trivial)
      (repeat (first | apply AK.seq | apply AK.block | apply AK.blk | apply AK.skip | (refine AK.reg follows_any (rs := []) (by rfl) ?_ ?_; first | exact trivial | exact ⟨trivial, trivial⟩ | exact ⟨trivial, trivial, trivial⟩ | exact ⟨trivial, trivial, trivial, trivial⟩ | fail) | fail))
      exact AK.lp ⟨k + 1, ⟨by omega, hnext⟩, Weak.intro ⟨⟨_, rfl, .refl _⟩, ⟨_, rfl, .refl _⟩, ⟨_, rfl, .refl _⟩, ⟨_, rfl, .refl _⟩, ⟨_, rfl, .of_eq (congrArg AV.str hj.symm)⟩, ⟨_, rfl, .refl _⟩, ⟨_, rfl, .refl _⟩, ⟨_, rfl, .of_eq (congrArg _ (by first | omega | (rw [wrap_in (by omega) (by omega)]; omega)))⟩, trivial⟩ ⟨⟨_, rfl, leL_refl _⟩, trivial⟩ rfl rfl, by omega⟩
    · have hk0 : k = 0 := by
        have : ¬ 0 < k := by simpa using hb
        omega
      have hj : joinB (l.take (k + 1)) = joinB (l.take k) ++ w := by
        subst hk0
        rw [take_snoc hgw]
        exact joinB_one w
      generalize joinB (l.take k) = pk at hj hjk ⊢
      (repeat (first | apply AK.seq | apply AK.block | apply AK.blk | apply AK.skip | (refine AK.reg follows_any (rs := []) (by rfl) ?_ ?_; first | exact trivial | exact ⟨trivial, trivial⟩ | exact ⟨trivial, trivial, trivial⟩ | exact ⟨trivial, trivial, trivial, trivial⟩ | fail) | fail))
      refine AK.reg follows_any (rs := []) (by rfl) ?_ ?_
      · ((repeat' apply And.intro) <;> first | trivial | omega | (simp only [List.length_nil, List.length_cons]; omega) | (intro hgd; first | (rw [hgd]; rfl) | (refine ⟨?_, by repeat (first | exact trivial | refine ⟨hgd, ?_⟩)⟩; (repeat' apply And.intro) <;> first | trivial | omega | (intro h2; rw [hgd, h2]; rfl) | skip)) | skip)
      (repeat (first | apply AK.seq | apply AK.block | apply AK.blk | apply AK.skip | (refine AK.reg follows_any (rs := []) (by rfl) ?_ ?_; first | exact trivial | exact ⟨trivial, trivial⟩ | exact ⟨trivial, trivial, trivial⟩ | exact ⟨trivial, trivial, trivial, trivial⟩ | fail) | fail))
      exact AK.lp ⟨k + 1, ⟨by omega, hnext⟩, Weak.intro ⟨⟨_, rfl, .refl _⟩, ⟨_, rfl, .refl _⟩, ⟨_, rfl, .refl _⟩, ⟨_, rfl, .refl _⟩, ⟨_, rfl, .of_eq (congrArg AV.str hj.symm)⟩, ⟨_, rfl, .refl _⟩, ⟨_, rfl, .refl _⟩, ⟨_, rfl, .of_eq (congrArg _ (by first | omega | (rw [wrap_in (by omega) (by omega)]; omega)))⟩, trivial⟩ ⟨⟨_, rfl, leL_refl _⟩, trivial⟩ rfl rfl, by omega⟩
  have hlt : k = l.length := by have : l.length ≤ k := by simpa [rowsP_len] using hb
                                omega
  subst hlt
  rw [List.take_length] at hw
  have hwd : ∀ t ∈ l, wdB t = true := fun t ht => (hw t ht).1
  have hjz : (joinB l).size ≤ 257 * l.length := joinL_len l fun t ht => by have := (hw t ht).2; omega
  obtain ⟨p1, p2⟩ := last_plain (v := v) (l := l) hg hd hne hl6 hwd ha1 ha2 hb1 hb2
  have zA := itB_len a ha1 ha2
  have zB := itB_len b hb1 hb2
  have z1 : (ByteArray.mk #[61]).size = 1 := rfl
  have hDa := digits_a a ha1 ha2
  have hS1 := set_a drop_ok v (joinB l ++ ⟨#[61]⟩ ++ itB a) hg.ord hg.tx (by omega) (by rw [ByteArray.size_append, ByteArray.size_append]; omega)
  rw [p1] at hS1
  refine AK.exit rfl ?_
  simp only [List.take_length]
  generalize joinB l = pl at hjz p1 p2 hS1 ⊢
  have hDb := digits_a b hb1 hb2
  generalize itB a = ta at zA p1 hDa hS1 ⊢
  generalize itB b = tb at zB p2 hDb ⊢
  by_cases hbig : 4096 < (vput (V.int a) l v).size
  · rw [if_pos hbig] at hS1
    (repeat (first | apply AK.seq | apply AK.block | apply AK.blk | apply AK.skip | (refine AK.reg follows_any (rs := []) (by rfl) ?_ ?_; first | exact trivial | exact ⟨trivial, trivial⟩ | exact ⟨trivial, trivial, trivial⟩ | exact ⟨trivial, trivial, trivial, trivial⟩ | fail) | fail))
    refine AK.reg follows_any (rs := [.v (.str ta), .v (.tup [.agg [.int .i64 (V.null).kind, .bool (V.null).b, .int .i64 (V.null).n, .str (V.null).s, .lst .any 6 (rowsV (V.null).l), .lst .any 7 (rowsM (V.null).m)], .int .i64 6])]) (by rfl) ?_ ?_
    · ((repeat' apply And.intro) <;> first | omega | (rw [ByteArray.size_append]; omega) | trivial)
    (repeat (first | apply AK.seq | apply AK.block | apply AK.blk | apply AK.skip | (refine AK.reg follows_any (rs := []) (by rfl) ?_ ?_; first | exact trivial | exact ⟨trivial, trivial⟩ | exact ⟨trivial, trivial, trivial⟩ | exact ⟨trivial, trivial, trivial, trivial⟩ | fail) | fail))
    refine AK.cond (by rfl) (fun hb => ?_) (fun hb => ?_)
    · (repeat (first | apply AK.seq | apply AK.block | apply AK.blk | apply AK.skip | (refine AK.reg follows_any (rs := []) (by rfl) ?_ ?_; first | exact trivial | exact ⟨trivial, trivial⟩ | exact ⟨trivial, trivial, trivial⟩ | exact ⟨trivial, trivial, trivial, trivial⟩ | fail) | fail))
      refine AK.reg follows_any (rs := [.v (.bool true)]) (by rfl) ?_ ?_
      · ((repeat' apply And.intro) <;> first | trivial | omega | (simp only [List.length_nil, List.length_cons]; omega) | (intro hgd; first | (rw [hgd]; rfl) | (refine ⟨?_, by repeat (first | exact trivial | refine ⟨hgd, ?_⟩)⟩; (repeat' apply And.intro) <;> first | trivial | omega | (intro h2; rw [hgd, h2]; rfl) | skip)) | skip)
      (repeat (first | apply AK.seq | apply AK.block | apply AK.blk | apply AK.skip | (refine AK.reg follows_any (rs := []) (by rfl) ?_ ?_; first | exact trivial | exact ⟨trivial, trivial⟩ | exact ⟨trivial, trivial, trivial⟩ | exact ⟨trivial, trivial, trivial, trivial⟩ | fail) | fail))
      refine AK.ret ⟨_, rfl, ?_⟩
      rfl
    · cases hb
  rw [if_neg hbig] at hS1
  obtain ⟨p3, p4⟩ := p2 hbig
  have hh := vput_has (x := V.int a) l v hg.ord
  have hxg := vput_good (vInt_good a) l v hwd hg
  have hyg := vput_good (vInt_good b) l v hwd hg
  have hyz : (vput (V.int b) l v).size = (vput (V.int a) l v).size := vput_size (by rfl) l v
  obtain ⟨c1, c2, c3⟩ := vcut_facts l _ hwd hxg hh
  have hGy := vput_get (x := V.int b) l v hg.ord
  have hGz := vcut_get l (vput (V.int a) l v) hne hxg.ord
  generalize vput (V.int a) l v = x at *
  generalize vput (V.int b) l v = y at *
  generalize vcut l x = z at *
  have hS2 := set_a drop_ok x (pl ++ ⟨#[61]⟩ ++ tb) hxg.ord hxg.tx (by omega) (by rw [ByteArray.size_append, ByteArray.size_append]; omega)
  rw [p3] at hS2
  have zn : wNull.size = 4 := rfl
  have hS3 := set_a drop_ok x (pl ++ ⟨#[61]⟩ ++ wNull) hxg.ord hxg.tx (by omega) (by rw [ByteArray.size_append, ByteArray.size_append]; omega)
  rw [p4, show pl ++ ⟨#[61]⟩ ++ wNull = pl ++ ⟨#[61, 110, 117, 108, 108]⟩ by rw [ByteArray.append_assoc]; rfl] at hS3
  have hg1 := refGets_some (v := y) (p := l) (by omega) (by omega) hGy
  have hg2 := refGets_none (v := z) (p := l) (by omega) (by omega) hGz
  have z5 : (ByteArray.mk #[61, 110, 117, 108, 108]).size = 5 := rfl
  (repeat (first | apply AK.seq | apply AK.block | apply AK.blk | apply AK.skip | (refine AK.reg follows_any (rs := []) (by rfl) ?_ ?_; first | exact trivial | exact ⟨trivial, trivial⟩ | exact ⟨trivial, trivial, trivial⟩ | exact ⟨trivial, trivial, trivial, trivial⟩ | fail) | fail))
  refine AK.reg follows_any (rs := [.v (.str ta), .v (.tup [.agg [.int .i64 (x).kind, .bool (x).b, .int .i64 (x).n, .str (x).s, .lst .any 6 (rowsV (x).l), .lst .any 7 (rowsM (x).m)], .int .i64 0])]) (by rfl) ?_ ?_
  · ((repeat' apply And.intro) <;> first | omega | (rw [ByteArray.size_append]; omega) | trivial)
  (repeat (first | apply AK.seq | apply AK.block | apply AK.blk | apply AK.skip | (refine AK.reg follows_any (rs := []) (by rfl) ?_ ?_; first | exact trivial | exact ⟨trivial, trivial⟩ | exact ⟨trivial, trivial, trivial⟩ | exact ⟨trivial, trivial, trivial, trivial⟩ | fail) | fail))
  refine AK.cond (by rfl) (fun hb => ?_) (fun hb => ?_)
  · cases hb
  (repeat (first | apply AK.seq | apply AK.block | apply AK.blk | apply AK.skip | (refine AK.reg follows_any (rs := []) (by rfl) ?_ ?_; first | exact trivial | exact ⟨trivial, trivial⟩ | exact ⟨trivial, trivial, trivial⟩ | exact ⟨trivial, trivial, trivial, trivial⟩ | fail) | fail))
  refine AK.reg follows_any (rs := [.v (.str tb), .v (.tup [.agg [.int .i64 (y).kind, .bool (y).b, .int .i64 (y).n, .str (y).s, .lst .any 6 (rowsV (y).l), .lst .any 7 (rowsM (y).m)], .int .i64 0])]) (by rfl) ?_ ?_
  · ((repeat' apply And.intro) <;> first | omega | (rw [ByteArray.size_append]; omega) | trivial)
  (repeat (first | apply AK.seq | apply AK.block | apply AK.blk | apply AK.skip | (refine AK.reg follows_any (rs := []) (by rfl) ?_ ?_; first | exact trivial | exact ⟨trivial, trivial⟩ | exact ⟨trivial, trivial, trivial⟩ | exact ⟨trivial, trivial, trivial, trivial⟩ | fail) | fail))
  refine AK.reg follows_any (rs := [.v (.tup [.agg [.int .i64 (z).kind, .bool (z).b, .int .i64 (z).n, .str (z).s, .lst .any 6 (rowsV (z).l), .lst .any 7 (rowsM (z).m)], .int .i64 0])]) (by rfl) ?_ ?_
  · ((repeat' apply And.intro) <;> first | omega | (rw [ByteArray.size_append]; omega) | trivial)
  (repeat (first | apply AK.seq | apply AK.block | apply AK.blk | apply AK.skip | (refine AK.reg follows_any (rs := []) (by rfl) ?_ ?_; first | exact trivial | exact ⟨trivial, trivial⟩ | exact ⟨trivial, trivial, trivial⟩ | exact ⟨trivial, trivial, trivial, trivial⟩ | fail) | fail))
  refine AK.reg follows_any (rs := [.v (.tup [.agg [.int .i64 ((V.int b)).kind, .bool ((V.int b)).b, .int .i64 ((V.int b)).n, .str ((V.int b)).s, .lst .any 6 (rowsV ((V.int b)).l), .lst .any 7 (rowsM ((V.int b)).m)], .bool true])]) (by rfl) ?_ ?_
  · ((repeat' apply And.intro) <;> first | omega | (rw [ByteArray.size_append]; omega) | trivial)
  (repeat (first | apply AK.seq | apply AK.block | apply AK.blk | apply AK.skip | (refine AK.reg follows_any (rs := []) (by rfl) ?_ ?_; first | exact trivial | exact ⟨trivial, trivial⟩ | exact ⟨trivial, trivial, trivial⟩ | exact ⟨trivial, trivial, trivial, trivial⟩ | fail) | fail))
  refine AK.reg follows_any (rs := [.v nullAV]) (by rfl) ?_ ?_
  · ((repeat' apply And.intro) <;> first | omega | (rw [ByteArray.size_append]; omega) | trivial)
  (repeat (first | apply AK.seq | apply AK.block | apply AK.blk | apply AK.skip | (refine AK.reg follows_any (rs := []) (by rfl) ?_ ?_; first | exact trivial | exact ⟨trivial, trivial⟩ | exact ⟨trivial, trivial, trivial⟩ | exact ⟨trivial, trivial, trivial, trivial⟩ | fail) | fail))
  refine AK.reg follows_any (rs := [.v (.bool true)]) (by rfl) ?_ ?_
  · ((repeat' apply And.intro) <;> first | trivial | omega | (simp only [List.length_nil, List.length_cons]; omega) | (intro hgd; first | (rw [hgd]; rfl) | (refine ⟨?_, by repeat (first | exact trivial | refine ⟨hgd, ?_⟩)⟩; (repeat' apply And.intro) <;> first | trivial | omega | (intro h2; rw [hgd, h2]; rfl) | skip)) | skip)
  (repeat (first | apply AK.seq | apply AK.block | apply AK.blk | apply AK.skip | (refine AK.reg follows_any (rs := []) (by rfl) ?_ ?_; first | exact trivial | exact ⟨trivial, trivial⟩ | exact ⟨trivial, trivial, trivial⟩ | exact ⟨trivial, trivial, trivial, trivial⟩ | fail) | fail))
  refine AK.ret ⟨_, rfl, ?_⟩
  rw [show (V.int b).n = b from rfl, decide_eq_true (rfl : b = b)]
  rfl
end Go.Proofs.YtfnpjakekeojoaaGreatDoor
