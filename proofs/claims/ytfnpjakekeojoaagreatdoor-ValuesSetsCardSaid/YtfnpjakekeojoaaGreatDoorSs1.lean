/-
  ValuesSets, walked: it answers true.
-/
import Derived.Test.YtfnpjakekeojoaaGreatDoorRv1
import Derived.Test.YtfnpjakekeojoaaGreatDoorLw2
namespace Go.Proofs.YtfnpjakekeojoaaGreatDoor
set_option linter.unusedSimpArgs false
set_option linter.unusedVariables false
open Go.RowKit

theorem set_size (v : V) (s : ByteArray) (ho : v.ord) (hv : v.size ≤ 1000000) (hs : s.size ≤ 1000000) : (setP v s).1.size ≤ 2000000 := by
  have hL := word_leaf (cutB s 61).2.1 (by have := (cutB_size s 61).2; omega)
  obtain ⟨hp1, _, _⟩ := pathP_facts (cutB s 61).1
  have hns := nest_size (wordP (cutB s 61).2.1).1 (pathP (cutB s 61).1).1
  have h1 := hL.2.2.1
  have hov := over_facts 100 v (nest (wordP (cutB s 61).2.1).1 (pathP (cutB s 61).1).1) (by omega) ho (nest_ord hL.1 _)
  have hn : V.null.size ≤ 2000000 := by rw [null_size]; omega
  unfold setP
  split
  · exact hn
  · split
    · exact hn
    · split
      · exact hn
      · split
        · exact hn
        · dsimp only; omega
theorem vStr_leaf (s : ByteArray) (hs : s.size ≤ 140737488355328) : (V.str s).leaf := leaf_mk (k := 3) (b := false) (n := 0) (s := s) (by decide) hs
theorem word_size {s : ByteArray} (h : wdB s = true) : s.size ≤ 256 := by
  simp only [wdB, Bool.and_eq_true, decide_eq_true_eq] at h
  exact h.2.2
theorem av_empty : (.agg [.int .i64 ((vMap [])).kind, .bool ((vMap [])).b, .int .i64 ((vMap [])).n, .str ((vMap [])).s, .lst .any 6 (rowsV ((vMap [])).l), .lst .any 7 (rowsM ((vMap [])).m)] : AV) = .agg [.int .i64 5, .bool false, .int .i64 0, .str ⟨#[]⟩, .lst .any 6 [], .lst .any 7 []] := by simp [vMap, V.kind, V.b, V.n, V.s, V.l, V.m, rowsV, rowsM]
theorem av_str (s : ByteArray) : (.agg [.int .i64 ((V.str s)).kind, .bool ((V.str s)).b, .int .i64 ((V.str s)).n, .str ((V.str s)).s, .lst .any 6 (rowsV ((V.str s)).l), .lst .any 7 (rowsM ((V.str s)).m)] : AV) = .agg [.int .i64 3, .bool false, .int .i64 0, .str s, .lst .any 6 [], .lst .any 7 []] := by simp [V.str, V.kind, V.b, V.n, V.s, V.l, V.m, rowsV, rowsM]
set_option maxRecDepth 8000 in
set_option maxHeartbeats 4000000 in
theorem valuesSets_a (v : V) (s : ByteArray) (l : List ByteArray) (text : ByteArray) (hsb : v.sb) (hss : s.size ≤ 140737488355328) (hlb : ∀ s ∈ l, s.size ≤ 140737488355328) (hts : text.size ≤ 140737488355328) :
    AC Tryz.prog 3 [.agg [.int .i64 (v).kind, .bool (v).b, .int .i64 (v).n, .str (v).s, .lst .any 6 (rowsV (v).l), .lst .any 7 (rowsM (v).m)], .str s, .lst .any 1 (rowsP l), .str text] (.bool true) := by
  have hA := awake_a
  have hR := right11_a v hsb
  have hT := refText_a text hts
  have hlen := rowsP_len l
  refine AC.enter Tryz.func3 a_law11_ValuesSets_ok a_law11_ValuesSets_cb (by rfl) fun E hE => ?_
  show AK _ _ _ [.c b_law11_ValuesSets] _ _
  rw [b_law11_ValuesSets]
  (repeat (first | apply kS | apply kB | apply kL | apply kN | (refine kR follows_any [] (by rfl) ?_ ?_; first | exact kT1 | exact kT2 | exact kT3 | exact kT4)))
  refine kR follows_any [.v (.bool (right11 v)), .v (.bool (textB text))] (by rfl) ?_ ?_
  · ((repeat' apply And.intro) <;> first | trivial | omega | (simp only [List.length_nil, List.length_cons]; omega) | (intro hgd; first | (rw [hgd]; rfl) | (refine ⟨?_, by repeat (first | exact trivial | refine ⟨hgd, ?_⟩)⟩; (repeat' apply And.intro) <;> first | trivial | omega | (intro h2; rw [hgd, h2]; rfl) | skip)) | skip)
  refine AK.cond (by rfl) (fun hb => ?_) (fun hb => ?_)
  · (repeat (first | apply kS | apply kB | apply kL | apply kN | (refine kR follows_any [] (by rfl) ?_ ?_; first | exact kT1 | exact kT2 | exact kT3 | exact kT4)))
    refine kR follows_any [.v (.bool true)] (by rfl) ?_ ?_
    · ((repeat' apply And.intro) <;> first | trivial | omega | (simp only [List.length_nil, List.length_cons]; omega) | (intro hgd; first | (rw [hgd]; rfl) | (refine ⟨?_, by repeat (first | exact trivial | refine ⟨hgd, ?_⟩)⟩; (repeat' apply And.intro) <;> first | trivial | omega | (intro h2; rw [hgd, h2]; rfl) | skip)) | skip)
    (repeat (first | apply kS | apply kB | apply kL | apply kN | (refine kR follows_any [] (by rfl) ?_ ?_; first | exact kT1 | exact kT2 | exact kT3 | exact kT4)))
    refine AK.ret ⟨_, rfl, ?_⟩
    rfl
  have hpre : right11 v = true ∧ s.size ≤ 500 ∧ l ≠ [] ∧ l.length ≤ 8 ∧ text.size ≤ 500 := by
    simp only [Bool.or_eq_false_iff, Bool.not_eq_false', decide_eq_false_iff_not] at hb
    obtain ⟨⟨⟨⟨⟨h1, h2⟩, h3⟩, h4⟩, h5⟩, h6⟩ := hb
    refine ⟨h1, by omega, fun e => ?_, by omega, by omega⟩
    subst e
    exact h3 rfl
  obtain ⟨hr, hs5, hne, hl8, ht5⟩ := hpre
  obtain ⟨r1, r2, r3⟩ := right11_iff hr
  obtain ⟨hg, hz, _⟩ := V.check_good r2
  have hQ := refQuoted_a s hss
  (repeat (first | apply kS | apply kB | apply kL | apply kN | (refine kR follows_any [] (by rfl) ?_ ?_; first | exact kT1 | exact kT2 | exact kT3 | exact kT4)))
  refine kR follows_any [.v (.bool (quotP s))] (by rfl) ?_ ?_
  · ((repeat' apply And.intro) <;> first | trivial | omega | (simp only [List.length_nil, List.length_cons]; omega) | (intro hgd; first | (rw [hgd]; rfl) | (refine ⟨?_, by repeat (first | exact trivial | refine ⟨hgd, ?_⟩)⟩; (repeat' apply And.intro) <;> first | trivial | omega | (intro h2; rw [hgd, h2]; rfl) | skip)) | skip)
  refine AK.cond (by rfl) (fun hb => ?_) (fun hb => ?_)
  have hq : quotP s = false := by simpa using hb
  have hS := set_a drop_ok v s hg.ord hg.tx (by omega) (by omega)
  have hS2 := refSet_a refPath_ok v s hg.ord hg.tx (by omega) (by omega) hq
  have hxz := set_size v s hg.ord (by omega) (by omega)
  generalize (setP v s).1 = x at hS hS2 hxz
  generalize (setP v s).2 = e at hS hS2
  have hSm := same_self x (by omega)
  (repeat (first | apply kS | apply kB | apply kL | apply kN | (refine kR follows_any [] (by rfl) ?_ ?_; first | exact kT1 | exact kT2 | exact kT3 | exact kT4)))
  refine kR follows_any [.v (.tup [.agg [.int .i64 (x).kind, .bool (x).b, .int .i64 (x).n, .str (x).s, .lst .any 6 (rowsV (x).l), .lst .any 7 (rowsM (x).m)], .int .i64 e])] (by rfl) ?_ ?_
  · ((repeat' apply And.intro) <;> first | trivial | omega | (simp only [List.length_nil, List.length_cons]; omega) | (intro hgd; first | (rw [hgd]; rfl) | (refine ⟨?_, by repeat (first | exact trivial | refine ⟨hgd, ?_⟩)⟩; (repeat' apply And.intro) <;> first | trivial | omega | (intro h2; rw [hgd, h2]; rfl) | skip)) | skip)
  (repeat (first | apply kS | apply kB | apply kL | apply kN | (refine kR follows_any [] (by rfl) ?_ ?_; first | exact kT1 | exact kT2 | exact kT3 | exact kT4)))
  refine kR follows_any [.v (.tup [.agg [.int .i64 (x).kind, .bool (x).b, .int .i64 (x).n, .str (x).s, .lst .any 6 (rowsV (x).l), .lst .any 7 (rowsM (x).m)], .int .i64 e])] (by rfl) ?_ ?_
  · ((repeat' apply And.intro) <;> first | trivial | omega | (simp only [List.length_nil, List.length_cons]; omega) | (intro hgd; first | (rw [hgd]; rfl) | (refine ⟨?_, by repeat (first | exact trivial | refine ⟨hgd, ?_⟩)⟩; (repeat' apply And.intro) <;> first | trivial | omega | (intro h2; rw [hgd, h2]; rfl) | skip)) | skip)
  (repeat (first | apply kS | apply kB | apply kL | apply kN | (refine kR follows_any [] (by rfl) ?_ ?_; first | exact kT1 | exact kT2 | exact kT3 | exact kT4)))
  refine kR follows_any [.v (.bool true)] (by rfl) ?_ ?_
  · ((repeat' apply And.intro) <;> first | trivial | omega | (simp only [List.length_nil, List.length_cons]; omega) | (intro hgd; first | (rw [hgd]; rfl) | (refine ⟨?_, by repeat (first | exact trivial | refine ⟨hgd, ?_⟩)⟩; (repeat' apply And.intro) <;> first | trivial | omega | (intro h2; rw [hgd, h2]; rfl) | skip)) | skip)
  refine AK.cond (by rfl) (fun hb => ?_) (fun hb => ?_)
  · exfalso
    simp at hb
  (repeat (first | apply kS | apply kB | apply kL | apply kN | (refine kR follows_any [] (by rfl) ?_ ?_; first | exact kT1 | exact kT2 | exact kT3 | exact kT4)))
  refine AK.weak (Weak.intro (L := [(2, .lst .any 1 (rowsP l)), (3, .str text), (4, .ptr 4 0), (13, .str ⟨#[]⟩), (77, .lst .any 1 (rowsP l)), (78, .int .i64 (rowsP l).length), (79, .int .i64 0)]) (BL := [(4, [.int .i64 (v).kind, .bool (v).b, .int .i64 (v).n, .str (v).s, .lst .any 6 (rowsV (v).l), .lst .any 7 (rowsM (v).m)], false)]) ⟨⟨_, rfl, .refl _⟩, ⟨_, rfl, .refl _⟩, ⟨_, rfl, .refl _⟩, ⟨_, rfl, .refl _⟩, ⟨_, rfl, .refl _⟩, ⟨_, rfl, .refl _⟩, ⟨_, rfl, .refl _⟩, trivial⟩ ⟨⟨_, rfl, leL_refl _⟩, trivial⟩ rfl rfl) ?_
  rotate_left 1
  (repeat (first | apply kS | apply kB | apply kL | apply kN | (refine kR follows_any [] (by rfl) ?_ ?_; first | exact kT1 | exact kT2 | exact kT3 | exact kT4)))
  refine AK.weak (Weak.intro (L := [(2, .lst .any 1 (rowsP l)), (3, .str text), (4, .ptr 4 0), (13, .str ⟨#[]⟩), (77, .lst .any 1 (rowsP l)), (78, .int .i64 (rowsP l).length), (79, .int .i64 0)]) (BL := [(4, [.int .i64 (v).kind, .bool (v).b, .int .i64 (v).n, .str (v).s, .lst .any 6 (rowsV (v).l), .lst .any 7 (rowsM (v).m)], false)]) ⟨⟨_, rfl, .refl _⟩, ⟨_, rfl, .refl _⟩, ⟨_, rfl, .refl _⟩, ⟨_, rfl, .refl _⟩, ⟨_, rfl, .refl _⟩, ⟨_, rfl, .refl _⟩, ⟨_, rfl, .refl _⟩, trivial⟩ ⟨⟨_, rfl, leL_refl _⟩, trivial⟩ rfl rfl) ?_
  all_goals clear hb
  all_goals
    refine AK.loopI (fun k : Nat => (frOf [(2, .lst .any 1 (rowsP l)), (3, .str text), (4, .ptr 4 0), (13, .str (joinB (l.take k))), (77, .lst .any 1 (rowsP l)), (78, .int .i64 (rowsP l).length), (79, .int .i64 k)], ⟨boxOf [(4, [.int .i64 (v).kind, .bool (v).b, .int .i64 (v).n, .str (v).s, .lst .any 6 (rowsV (v).l), .lst .any 7 (rowsM (v).m)], false)], fun _ => 0⟩))
      (fun k => k ≤ l.length ∧ ∀ t ∈ l.take k, wdB t = true) (fun k => l.length - k) 0 ⟨by omega, by simp⟩ (Weak.intro ⟨⟨_, rfl, .refl _⟩, ⟨_, rfl, .refl _⟩, ⟨_, rfl, .refl _⟩, ⟨_, rfl, .of_eq rfl⟩, ⟨_, rfl, .refl _⟩, ⟨_, rfl, .refl _⟩, ⟨_, rfl, .refl _⟩, trivial⟩ ⟨⟨_, rfl, leL_refl _⟩, trivial⟩ rfl rfl) fun k ⟨hk, hw⟩ => ?_
    (repeat (first | apply kS | apply kB | apply kL | apply kN | (refine kR follows_any [] (by rfl) ?_ ?_; first | exact kT1 | exact kT2 | exact kT3 | exact kT4)))
    refine AK.cond (by rfl) (fun hb => ?_) (fun hb => ?_)
    · have hlt : k < l.length := by simpa [rowsP_len] using hb
      obtain ⟨w, hgw⟩ : ∃ x, l[k]? = some x := ⟨_, List.getElem?_eq_getElem hlt⟩
      have hwm := hlb w (List.mem_of_getElem? hgw)
      have hW := refWord_a w hwm
      (repeat (first | apply kS | apply kB | apply kL | apply kN | (refine kR follows_any [] (by rfl) ?_ ?_; first | exact kT1 | exact kT2 | exact kT3 | exact kT4)))
      refine kR follows_any [.c [.str w]] (by rfl) ?_ ?_
      · ((repeat' apply And.intro) <;> first | trivial | omega | (simp only [List.length_nil, List.length_cons]; omega) | (intro hgd; first | (rw [hgd]; rfl) | (refine ⟨?_, by repeat (first | exact trivial | refine ⟨hgd, ?_⟩)⟩; (repeat' apply And.intro) <;> first | trivial | omega | (intro h2; rw [hgd, h2]; rfl) | skip)) | skip)
        · exact rowsP_at hgw
      (repeat (first | apply kS | apply kB | apply kL | apply kN | (refine kR follows_any [] (by rfl) ?_ ?_; first | exact kT1 | exact kT2 | exact kT3 | exact kT4)))
      refine kR follows_any [.v (.bool (wdB w))] (by rfl) ?_ ?_
      · ((repeat' apply And.intro) <;> first | trivial | omega | (simp only [List.length_nil, List.length_cons]; omega) | (intro hgd; first | (rw [hgd]; rfl) | (refine ⟨?_, by repeat (first | exact trivial | refine ⟨hgd, ?_⟩)⟩; (repeat' apply And.intro) <;> first | trivial | omega | (intro h2; rw [hgd, h2]; rfl) | skip)) | skip)
      refine AK.cond (by rfl) (fun hb => ?_) (fun hb => ?_)
      · (repeat (first | apply kS | apply kB | apply kL | apply kN | (refine kR follows_any [] (by rfl) ?_ ?_; first | exact kT1 | exact kT2 | exact kT3 | exact kT4)))
        refine kR follows_any [.v (.bool true)] (by rfl) ?_ ?_
        · ((repeat' apply And.intro) <;> first | trivial | omega | (simp only [List.length_nil, List.length_cons]; omega) | (intro hgd; first | (rw [hgd]; rfl) | (refine ⟨?_, by repeat (first | exact trivial | refine ⟨hgd, ?_⟩)⟩; (repeat' apply And.intro) <;> first | trivial | omega | (intro h2; rw [hgd, h2]; rfl) | skip)) | skip)
        (repeat (first | apply kS | apply kB | apply kL | apply kN | (refine kR follows_any [] (by rfl) ?_ ?_; first | exact kT1 | exact kT2 | exact kT3 | exact kT4)))
        refine AK.ret ⟨_, rfl, ?_⟩
        rfl
      have z46 : (ByteArray.mk #[46]).size = 1 := rfl
      have hjk : (joinB (l.take k)).size ≤ 257 * 8 := by
        have h1 := joinL_len (l.take k) fun t ht => word_size (hw t ht)
        rw [List.length_take] at h1
        exact Nat.le_trans h1 (Nat.mul_le_mul_left _ (by omega))
      have hwd : wdB w = true := by simpa using hb
      have hwz := word_size hwd
      have hnext : ∀ t ∈ l.take (k + 1), wdB t = true := fun t ht => by
        rw [take_snoc hgw] at ht
        rcases List.mem_append.1 ht with ht | ht
        · exact hw t ht
        · rw [List.mem_singleton.1 ht]; exact hwd
      (repeat (first | apply kS | apply kB | apply kL | apply kN | (refine kR follows_any [] (by rfl) ?_ ?_; first | exact kT1 | exact kT2 | exact kT3 | exact kT4)))
      refine AK.cond (by rfl) (fun hb => ?_) (fun hb => ?_)
      · have hk0 : l.take k ≠ [] := by
          have : 0 < k := by simpa using hb
          intro e
          have := congrArg List.length e
          rw [List.length_take, Nat.min_eq_left hk] at this
          simp only [List.length_nil] at this
          omega
        have hj : joinB (l.take (k + 1)) = joinB (l.take k) ++ ⟨#[46]⟩ ++ w := by rw [take_snoc hgw, joinB_snoc _ _ hk0]
        generalize joinB (l.take k) = pk at hj hjk ⊢
        (repeat (first | apply kS | apply kB | apply kL | apply kN | (refine kR follows_any [] (by rfl) ?_ ?_; first | exact kT1 | exact kT2 | exact kT3 | exact kT4)))
        refine kR follows_any [] (by rfl) ?_ ?_
        · ((repeat' apply And.intro) <;> first | omega | (rw [ByteArray.size_append]; omega) | trivial)
        (repeat (first | apply kS | apply kB | apply kL | apply kN | (refine kR follows_any [] (by rfl) ?_ ?_; first | exact kT1 | exact kT2 | exact kT3 | exact kT4)))
        refine kR follows_any [] (by rfl) ?_ ?_
        · ((repeat' apply And.intro) <;> first | omega | (rw [ByteArray.size_append]; omega) | trivial)
        (repeat (first | apply kS | apply kB | apply kL | apply kN | (refine kR follows_any [] (by rfl) ?_ ?_; first | exact kT1 | exact kT2 | exact kT3 | exact kT4)))
        exact AK.lp ⟨k + 1, ⟨by omega, hnext⟩, Weak.intro ⟨⟨_, rfl, .refl _⟩, ⟨_, rfl, .refl _⟩, ⟨_, rfl, .refl _⟩, ⟨_, rfl, .of_eq (congrArg AV.str hj.symm)⟩, ⟨_, rfl, .refl _⟩, ⟨_, rfl, .refl _⟩, ⟨_, rfl, .of_eq (congrArg _ (by first | omega | (rw [wrap_in (by omega) (by omega)]; omega)))⟩, trivial⟩ ⟨⟨_, rfl, leL_refl _⟩, trivial⟩ rfl rfl, by omega⟩
      · have hk0 : k = 0 := by
          have : ¬ 0 < k := by simpa using hb
          omega
        have hj : joinB (l.take (k + 1)) = joinB (l.take k) ++ w := by
          subst hk0
          rw [take_snoc hgw]
          exact joinB_one w
        generalize joinB (l.take k) = pk at hj hjk ⊢
        (repeat (first | apply kS | apply kB | apply kL | apply kN | (refine kR follows_any [] (by rfl) ?_ ?_; first | exact kT1 | exact kT2 | exact kT3 | exact kT4)))
        refine kR follows_any [] (by rfl) ?_ ?_
        · ((repeat' apply And.intro) <;> first | omega | (rw [ByteArray.size_append]; omega) | trivial)
        (repeat (first | apply kS | apply kB | apply kL | apply kN | (refine kR follows_any [] (by rfl) ?_ ?_; first | exact kT1 | exact kT2 | exact kT3 | exact kT4)))
        exact AK.lp ⟨k + 1, ⟨by omega, hnext⟩, Weak.intro ⟨⟨_, rfl, .refl _⟩, ⟨_, rfl, .refl _⟩, ⟨_, rfl, .refl _⟩, ⟨_, rfl, .of_eq (congrArg AV.str hj.symm)⟩, ⟨_, rfl, .refl _⟩, ⟨_, rfl, .refl _⟩, ⟨_, rfl, .of_eq (congrArg _ (by first | omega | (rw [wrap_in (by omega) (by omega)]; omega)))⟩, trivial⟩ ⟨⟨_, rfl, leL_refl _⟩, trivial⟩ rfl rfl, by omega⟩
    have hlt : k = l.length := by have : l.length ≤ k := by simpa [rowsP_len] using hb
                                  omega
    subst hlt
    rw [List.take_length] at hw
    have hjz : (joinB l).size ≤ 257 * l.length := joinL_len l fun t ht => word_size (hw t ht)
    have hLf := vStr_leaf text hts
    have hns := nest_size (V.str text) l
    have hno := nest_ord hLf.1 l
    have hnt := nest_tx hLf.2.1 l hlb
    have h1z := hLf.2.2.1
    have hov := over_facts 100 v (nest (V.str text) l) (by omega) hg.ord hno
    have hot := over_tx 100 v (nest (V.str text) l) (by omega) hg.ord hno hg.tx hnt
    have hO := refOver_a 100 v (nest (V.str text) l) (by omega) (by omega) (by omega)
    have hCk := refCheck_a (overN 100 v (nest (V.str text) l)) (hot.sb (by omega)) (by omega)
    have hPu := refPuts_a (V.str text) l (vMap []) (by rw [vMap_size, sizeM]; omega) (by omega)
    rw [put_nest (V.str text) l (vMap []) rfl, av_empty, av_str] at hPu
    have hq1 := setP_join v hne (by omega) hw (quoteB text) (V.str text) (word_quote text)
    have hq2 := setP_join v hne (by omega) hw (singB text) (V.str text) (word_sing text)
    have zq1 : (quoteB text).size ≤ 2000 := by
      have := quoteP_size text text.size
      have z : (ByteArray.mk #[34]).size = 1 := rfl
      rw [quoteB, ByteArray.size_append]; omega
    have zq2 : (singB text).size ≤ 2000 := by
      have := singP_size text text.size
      have z : (ByteArray.mk #[39]).size = 1 := rfl
      rw [singB, ByteArray.size_append]; omega
    have hQ1 := refQuote_a text hts
    have hQ2 := refSingle_a text (by omega)
    have z1 : (ByteArray.mk #[61]).size = 1 := rfl
    have hS1 := set_a drop_ok v (joinB l ++ ⟨#[61]⟩ ++ quoteB text) hg.ord hg.tx (by omega) (by rw [ByteArray.size_append, ByteArray.size_append]; omega)
    have hS2 := set_a drop_ok v (joinB l ++ ⟨#[61]⟩ ++ singB text) hg.ord hg.tx (by omega) (by rw [ByteArray.size_append, ByteArray.size_append]; omega)
    rw [hq1] at hS1
    rw [hq2] at hS2
    have hWd := valWord_a ⟨#[39, 97, 39, 32, 98]⟩ (by decide)
    rw [show wordP ⟨#[39, 97, 39, 32, 98]⟩ = (V.null, 10) from by kernel_rfl] at hWd
    refine AK.exit rfl ?_
    simp only [List.take_length]
    generalize nest (V.str text) l = nx at *
    generalize overN 100 v nx = want at *
    generalize hrr : (if want.checkC ≠ 0 then (V.null, want.checkC) else (want, 0)) = rr at hS1 hS2
    generalize quoteB text = ta at *
    generalize singB text = tb at *
    generalize joinB l = pl at *
    have hSa : ∀ q ∈ [ta, tb], q.size ≤ 2000 ∧ AC Tryz.prog 10 [.agg [.int .i64 (v).kind, .bool (v).b, .int .i64 (v).n, .str (v).s, .lst .any 6 (rowsV (v).l), .lst .any 7 (rowsM (v).m)], .str (pl ++ ⟨#[61]⟩ ++ q)] (.tup [.agg [.int .i64 (rr.1).kind, .bool (rr.1).b, .int .i64 (rr.1).n, .str (rr.1).s, .lst .any 6 (rowsV (rr.1).l), .lst .any 7 (rowsM (rr.1).m)], .int .i64 rr.2]) := by
      intro q hq
      rcases List.mem_cons.1 hq with rfl | hq
      · exact ⟨zq1, hS1⟩
      · rw [List.mem_singleton.1 hq]; exact ⟨zq2, hS2⟩
    clear hS1 hS2 hq1 hq2
    obtain ⟨rx, re⟩ := rr
    dsimp only at hSa
    (repeat (first | apply kS | apply kB | apply kL | apply kN | (refine kR follows_any [] (by rfl) ?_ ?_; first | exact kT1 | exact kT2 | exact kT3 | exact kT4)))
    refine kR follows_any [.v (.agg [.int .i64 (nx).kind, .bool (nx).b, .int .i64 (nx).n, .str (nx).s, .lst .any 6 (rowsV (nx).l), .lst .any 7 (rowsM (nx).m)]), .v (.agg [.int .i64 (want).kind, .bool (want).b, .int .i64 (want).n, .str (want).s, .lst .any 6 (rowsV (want).l), .lst .any 7 (rowsM (want).m)])] (by rfl) ?_ ?_
    · (repeat' apply And.intro) <;> first | exact hPu | exact hO | trivial
    (repeat (first | apply kS | apply kB | apply kL | apply kN | (refine kR follows_any [] (by rfl) ?_ ?_; first | exact kT1 | exact kT2 | exact kT3 | exact kT4)))
    refine kR follows_any [.v (.str ta), .v (.str tb)] (by rfl) ?_ ?_
    · ((repeat' apply And.intro) <;> first | trivial | omega | (simp only [List.length_nil, List.length_cons]; omega) | (intro hgd; first | (rw [hgd]; rfl) | (refine ⟨?_, by repeat (first | exact trivial | refine ⟨hgd, ?_⟩)⟩; (repeat' apply And.intro) <;> first | trivial | omega | (intro h2; rw [hgd, h2]; rfl) | skip)) | skip)
    (repeat (first | apply kS | apply kB | apply kL | apply kN | (refine kR follows_any [] (by rfl) ?_ ?_; first | exact kT1 | exact kT2 | exact kT3 | exact kT4)))
    refine AK.loopI (fun k : Nat => (frOf [(4, .ptr 4 0), (13, .str pl), (16, .ptr 16 0), (107, .lst .any 1 (rowsP [ta, tb])), (108, .int .i64 2), (109, .int .i64 k)], ⟨boxOf [(4, [.int .i64 (v).kind, .bool (v).b, .int .i64 (v).n, .str (v).s, .lst .any 6 (rowsV (v).l), .lst .any 7 (rowsM (v).m)], false), (16, [.int .i64 (want).kind, .bool (want).b, .int .i64 (want).n, .str (want).s, .lst .any 6 (rowsV (want).l), .lst .any 7 (rowsM (want).m)], false)], fun _ => 0⟩))
      (fun k => k ≤ 2) (fun k => 2 - k) 0 (by omega) (Weak.intro ⟨⟨_, rfl, .refl _⟩, ⟨_, rfl, .refl _⟩, ⟨_, rfl, .refl _⟩, ⟨_, rfl, .one (.any _ _ _)⟩, ⟨_, rfl, .of_eq rfl⟩, ⟨_, rfl, .refl _⟩, trivial⟩ ⟨⟨_, rfl, leL_refl _⟩, ⟨_, rfl, leL_refl _⟩, trivial⟩ rfl rfl) fun k hk => ?_
    (repeat (first | apply kS | apply kB | apply kL | apply kN | (refine kR follows_any [] (by rfl) ?_ ?_; first | exact kT1 | exact kT2 | exact kT3 | exact kT4)))
    refine AK.cond (by rfl) (fun hb => ?_) (fun hb => ?_)
    · have hlt : k < 2 := by
        have : (k : Int) < 2 := by simpa using hb
        omega
      obtain ⟨q, hq⟩ : ∃ x, [ta, tb][k]? = some x := ⟨_, List.getElem?_eq_getElem (by simpa using hlt)⟩
      obtain ⟨zq, hS⟩ := hSa q (List.mem_of_getElem? hq)
      (repeat (first | apply kS | apply kB | apply kL | apply kN | (refine kR follows_any [] (by rfl) ?_ ?_; first | exact kT1 | exact kT2 | exact kT3 | exact kT4)))
      refine kR follows_any [.c [.str q]] (by rfl) ?_ ?_
      · ((repeat' apply And.intro) <;> first | trivial | omega | (simp only [List.length_nil, List.length_cons]; omega) | (intro hgd; first | (rw [hgd]; rfl) | (refine ⟨?_, by repeat (first | exact trivial | refine ⟨hgd, ?_⟩)⟩; (repeat' apply And.intro) <;> first | trivial | omega | (intro h2; rw [hgd, h2]; rfl) | skip)) | skip)
        · exact rowsP_at hq
      (repeat (first | apply kS | apply kB | apply kL | apply kN | (refine kR follows_any [] (by rfl) ?_ ?_; first | exact kT1 | exact kT2 | exact kT3 | exact kT4)))
      refine kR follows_any [.v (.tup [.agg [.int .i64 (rx).kind, .bool (rx).b, .int .i64 (rx).n, .str (rx).s, .lst .any 6 (rowsV (rx).l), .lst .any 7 (rowsM (rx).m)], .int .i64 re])] (by rfl) ?_ ?_
      · ((repeat' apply And.intro) <;> first | omega | (rw [ByteArray.size_append]; omega) | trivial)
      (repeat (first | apply kS | apply kB | apply kL | apply kN | (refine kR follows_any [] (by rfl) ?_ ?_; first | exact kT1 | exact kT2 | exact kT3 | exact kT4)))
      refine kR follows_any [.v (.int .i64 want.checkC)] (by rfl) ?_ ?_
      · ((repeat' apply And.intro) <;> first | trivial | omega | (simp only [List.length_nil, List.length_cons]; omega) | (intro hgd; first | (rw [hgd]; rfl) | (refine ⟨?_, by repeat (first | exact trivial | refine ⟨hgd, ?_⟩)⟩; (repeat' apply And.intro) <;> first | trivial | omega | (intro h2; rw [hgd, h2]; rfl) | skip)) | skip)
      (repeat (first | apply kS | apply kB | apply kL | apply kN | (refine kR follows_any [] (by rfl) ?_ ?_; first | exact kT1 | exact kT2 | exact kT3 | exact kT4)))
      refine AK.cond (by rfl) (fun hb => ?_) (fun hb => ?_)
      · have hc : want.checkC ≠ 0 := by simpa using hb
        have hre : re = want.checkC := by
          rw [if_pos hc] at hrr
          cases hrr; rfl
        subst hre
        (repeat (first | apply kS | apply kB | apply kL | apply kN | (refine kR follows_any [] (by rfl) ?_ ?_; first | exact kT1 | exact kT2 | exact kT3 | exact kT4)))
        refine AK.cond (by rfl) (fun hb => ?_) (fun hb => ?_)
        · exfalso
          simp at hb
        (repeat (first | apply kS | apply kB | apply kL | apply kN | (refine kR follows_any [] (by rfl) ?_ ?_; first | exact kT1 | exact kT2 | exact kT3 | exact kT4)))
        exact AK.lp ⟨k + 1, by omega, Weak.intro ⟨⟨_, rfl, .refl _⟩, ⟨_, rfl, .refl _⟩, ⟨_, rfl, .refl _⟩, ⟨_, rfl, .refl _⟩, ⟨_, rfl, .refl _⟩, ⟨_, rfl, .of_eq (congrArg _ (by first | omega | (rw [wrap_in (by omega) (by omega)]; omega)))⟩, trivial⟩ ⟨⟨_, rfl, leL_refl _⟩, ⟨_, rfl, leL_refl _⟩, trivial⟩ rfl rfl, by omega⟩
      · have hc : want.checkC = 0 := by simpa using hb
        rw [if_neg (by omega)] at hrr
        cases hrr
        have hSm := same_self want (by omega)
        (repeat (first | apply kS | apply kB | apply kL | apply kN | (refine kR follows_any [] (by rfl) ?_ ?_; first | exact kT1 | exact kT2 | exact kT3 | exact kT4)))
        refine kR follows_any [.v (.bool true)] (by rfl) ?_ ?_
        · ((repeat' apply And.intro) <;> first | trivial | omega | (simp only [List.length_nil, List.length_cons]; omega) | (intro hgd; first | (rw [hgd]; rfl) | (refine ⟨?_, by repeat (first | exact trivial | refine ⟨hgd, ?_⟩)⟩; (repeat' apply And.intro) <;> first | trivial | omega | (intro h2; rw [hgd, h2]; rfl) | skip)) | skip)
        refine AK.cond (by rfl) (fun hb => ?_) (fun hb => ?_)
        · cases hb
        (repeat (first | apply kS | apply kB | apply kL | apply kN | (refine kR follows_any [] (by rfl) ?_ ?_; first | exact kT1 | exact kT2 | exact kT3 | exact kT4)))
        exact AK.lp ⟨k + 1, by omega, Weak.intro ⟨⟨_, rfl, .refl _⟩, ⟨_, rfl, .refl _⟩, ⟨_, rfl, .refl _⟩, ⟨_, rfl, .refl _⟩, ⟨_, rfl, .refl _⟩, ⟨_, rfl, .of_eq (congrArg _ (by first | omega | (rw [wrap_in (by omega) (by omega)]; omega)))⟩, trivial⟩ ⟨⟨_, rfl, leL_refl _⟩, ⟨_, rfl, leL_refl _⟩, trivial⟩ rfl rfl, by omega⟩
    refine AK.exit rfl ?_
    (repeat (first | apply kS | apply kB | apply kL | apply kN | (refine kR follows_any [] (by rfl) ?_ ?_; first | exact kT1 | exact kT2 | exact kT3 | exact kT4)))
    refine kR follows_any [.v (.tup [.agg [.int .i64 (V.null).kind, .bool (V.null).b, .int .i64 (V.null).n, .str (V.null).s, .lst .any 6 (rowsV (V.null).l), .lst .any 7 (rowsM (V.null).m)], .int .i64 10])] (by rfl) ?_ ?_
    · ((repeat' apply And.intro) <;> first | trivial | omega | (simp only [List.length_nil, List.length_cons]; omega) | (intro hgd; first | (rw [hgd]; rfl) | (refine ⟨?_, by repeat (first | exact trivial | refine ⟨hgd, ?_⟩)⟩; (repeat' apply And.intro) <;> first | trivial | omega | (intro h2; rw [hgd, h2]; rfl) | skip)) | skip)
    (repeat (first | apply kS | apply kB | apply kL | apply kN | (refine kR follows_any [] (by rfl) ?_ ?_; first | exact kT1 | exact kT2 | exact kT3 | exact kT4)))
    refine kR follows_any [.v (.bool true)] (by rfl) ?_ ?_
    · ((repeat' apply And.intro) <;> first | trivial | omega | (simp only [List.length_nil, List.length_cons]; omega) | (intro hgd; first | (rw [hgd]; rfl) | (refine ⟨?_, by repeat (first | exact trivial | refine ⟨hgd, ?_⟩)⟩; (repeat' apply And.intro) <;> first | trivial | omega | (intro h2; rw [hgd, h2]; rfl) | skip)) | skip)
    (repeat (first | apply kS | apply kB | apply kL | apply kN | (refine kR follows_any [] (by rfl) ?_ ?_; first | exact kT1 | exact kT2 | exact kT3 | exact kT4)))
    refine AK.ret ⟨_, rfl, ?_⟩
    rfl
end Go.Proofs.YtfnpjakekeojoaaGreatDoor
