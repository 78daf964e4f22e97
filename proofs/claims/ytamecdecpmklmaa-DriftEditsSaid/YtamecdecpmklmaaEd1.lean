/-
  The document's Put and Drop of a map, walked.
-/
import Derived.Test.YtamecdecpmklmaaDriftG
import Derived.Test.YtamecdecpmklmaaMap
namespace Go.Proofs.Ytamecdecpmklmaa
set_option linter.unusedSimpArgs false
set_option linter.unusedVariables false
open Go.RowKit

/-- one step of the document's Put -/
def rputS (key : ByteArray) (x : V) (s : List (ByteArray × V) × Bool) (p : ByteArray × V) : List (ByteArray × V) × Bool :=
  let t := if (!Op.bytesLess p.1.toList key.toList && !s.2) = true then (s.1 ++ [(key, x)], true) else s
  if p.1 ≠ key then (t.1 ++ [p], t.2) else t
def rputF (key : ByteArray) (x : V) (m : List (ByteArray × V)) : List (ByteArray × V) × Bool := m.foldl (rputS key x) ([], false)
def rput (key : ByteArray) (x : V) (m : List (ByteArray × V)) : List (ByteArray × V) := if (rputF key x m).2 then (rputF key x m).1 else (rputF key x m).1 ++ [(key, x)]
theorem rputF_take {key : ByteArray} {x : V} {m : List (ByteArray × V)} {k : Nat} {p : ByteArray × V} (h : m[k]? = some p) : rputF key x (m.take (k + 1)) = rputS key x (rputF key x (m.take k)) p := by
  rw [rputF, take_snoc h, List.foldl_append]
  rfl
theorem rputS_len (key : ByteArray) (x : V) (s : List (ByteArray × V) × Bool) (p : ByteArray × V) : (rputS key x s p).1.length ≤ s.1.length + 2 := by
  unfold rputS
  split <;> split <;> simp
theorem rputF_len (key : ByteArray) (x : V) (m : List (ByteArray × V)) : (rputF key x m).1.length ≤ 2 * m.length := by
  have : ∀ (m : List (ByteArray × V)) s, (m.foldl (rputS key x) s).1.length ≤ s.1.length + 2 * m.length := by
    intro m
    induction m with
    | nil => intro s; simp
    | cons p m ih => intro s; have := ih (rputS key x s p); have := rputS_len key x s p; simp only [List.foldl_cons, List.length_cons]; omega
  have h := this m ([], false)
  simp only [List.length_nil, Nat.zero_add] at h
  exact h
theorem rput_eq {key : ByteArray} {x : V} {m : List (ByteArray × V)} (h : Rises m) : rput key x m = minsert key x m := by
  have A : ∀ (m out : List (ByteArray × V)), (∀ p ∈ m, klt key p.1) → m.foldl (rputS key x) (out, true) = (out ++ m, true) := by
    intro m
    induction m with
    | nil => intro out _; simp
    | cons p m ih =>
      intro out hp
      have h1 : rputS key x (out, true) p = (out ++ [p], true) := by
        have hne : ¬ p.1 = key := fun e => klt_ne (hp p (by simp)) e.symm
        simp [rputS, hne]
      rw [List.foldl_cons, h1, ih _ fun q hq => hp q (by simp [hq])]
      simp
  have B : ∀ (m out : List (ByteArray × V)), Rises m → (if (m.foldl (rputS key x) (out, false)).2 then (m.foldl (rputS key x) (out, false)).1 else (m.foldl (rputS key x) (out, false)).1 ++ [(key, x)]) = out ++ minsert key x m := by
    intro m
    induction m with
    | nil => intro out _; simp [minsert]
    | cons p m ih =>
      intro out hm
      obtain ⟨k, y⟩ := p
      have hc := List.pairwise_cons.1 hm
      rw [List.foldl_cons, minsert]
      by_cases hlt : cmpS k key < 0
      · have hk := cmpS_lt.1 hlt
        have h1 : rputS key x (out, false) (k, y) = (out ++ [(k, y)], false) := by
          have hk' : Op.bytesLess k.toList key.toList = true := hk
          simp [rputS, hk', klt_ne hk]
        rw [h1, ih _ hc.2, if_pos hlt]
        simp
      · have hnk : Op.bytesLess k.toList key.toList = false := by
          cases hb : Op.bytesLess k.toList key.toList with
          | false => rfl
          | true => exact absurd (cmpS_lt.2 hb) hlt
        rw [if_neg hlt]
        by_cases he : cmpS k key = 0
        · have := cmpS_eq.1 he
          subst this
          have h1 : rputS k x (out, false) (k, y) = (out ++ [(k, x)], true) := by simp [rputS, hnk]
          rw [h1, A _ _ (fun q hq => hc.1 q hq), if_pos he]
          simp
        · have hk := klt_tri hlt he
          have h1 : rputS key x (out, false) (k, y) = (out ++ [(key, x)] ++ [(k, y)], true) := by
            have hne : ¬ k = key := fun e => klt_ne hk e.symm
            simp [rputS, hnk, hne]
          rw [h1, A _ _ (fun q hq => klt_trans hk (hc.1 q hq)), if_neg he]
          simp
  have h0 := B m [] h
  rw [List.nil_append] at h0
  exact h0
theorem lst_le {st : St} {t : Tag} {esz : Nat} {l l' : List (List AV)} (h : l = l') : AVle1 st (.lst t esz l) (.lst t esz l') := h ▸ .refl _
theorem refPut_a (v x : V) (key : ByteArray) (hsz : v.size ≤ 1000000) : AC Try.prog 18 [.agg [.int .i64 (v).kind, .bool (v).b, .int .i64 (v).n, .str (v).s, .lst .any 6 (rowsV (v).l), .lst .any 7 (rowsM (v).m)], .str key, .agg [.int .i64 (x).kind, .bool (x).b, .int .i64 (x).n, .str (x).s, .lst .any 6 (rowsV (x).l), .lst .any 7 (rowsM (x).m)]] (.agg [.int .i64 5, .bool false, .int .i64 0, .str ⟨#[]⟩, .lst .any 6 [], .lst .any 7 (rowsM (rput key x v.m))]) := by
  have hve := v.size_eq
  have hlm := len_le_sizeM v.m
  refine AC.enter Try.func18 a_ref01_Put_ok a_ref01_Put_cb (by rfl) fun E hE => ?_
  show AK _ _ _ [.c b_ref01_Put] _ _
  rw [b_ref01_Put]
  (repeat (first | apply AK.seq | apply AK.block | apply AK.blk | apply AK.skip | (refine AK.reg follows_any (rs := []) (by rfl) ?_ ?_; first | exact trivial | exact ⟨trivial, trivial⟩ | exact ⟨trivial, trivial, trivial⟩ | exact ⟨trivial, trivial, trivial, trivial⟩ | fail) | fail))
  refine AK.loopI (fun i : Nat × (Nat → Nat) => (frOf [(1, .str key), (3, .ptr 3 0), (5, .ptr 5 0), (6, .ptr 6 0), (7, .ptr 7 0), (8, .bool (rputF key x (v.m.take i.1)).2), (9, .int .i64 i.1)], ⟨boxOf [(3, [.int .i64 (v).kind, .bool (v).b, .int .i64 (v).n, .str (v).s, .lst .any 6 (rowsV (v).l), .lst .any 7 (rowsM (v).m)], false), (5, [.int .i64 (x).kind, .bool (x).b, .int .i64 (x).n, .str (x).s, .lst .any 6 (rowsV (x).l), .lst .any 7 (rowsM (x).m)], false), (6, zeroAVs, false), (7, [.int .i64 5, .bool false, .int .i64 0, .str ⟨#[]⟩, .lst .nil 6 [], .lst (.own 36 (i.2 36)) 7 (rowsM (rputF key x (v.m.take i.1)).1)], false)], i.2⟩))
    (fun i => i.1 ≤ v.m.length) (fun i => v.m.length - i.1) (0, fun _ => 0) (by simp) (Weak.intro ⟨⟨_, rfl, .refl _⟩, ⟨_, rfl, .refl _⟩, ⟨_, rfl, .refl _⟩, ⟨_, rfl, .refl _⟩, ⟨_, rfl, .refl _⟩, ⟨_, rfl, .refl _⟩, ⟨_, rfl, .refl _⟩, trivial⟩ ⟨⟨_, rfl, leL_refl _⟩, ⟨_, rfl, leL_refl _⟩, ⟨_, rfl, leL_refl _⟩, ⟨_, rfl, ⟨.refl _, .refl _, .refl _, .refl _, .refl _, .own _ _ _ _, trivial⟩⟩, trivial⟩ rfl rfl) fun ⟨k, r⟩ hk => ?_
  dsimp only at hk
  have hpl := rputF_len key x (v.m.take k)
  rw [List.length_take] at hpl
  (repeat (first | apply AK.seq | apply AK.block | apply AK.blk | apply AK.skip | (refine AK.reg follows_any (rs := []) (by rfl) ?_ ?_; first | exact trivial | exact ⟨trivial, trivial⟩ | exact ⟨trivial, trivial, trivial⟩ | exact ⟨trivial, trivial, trivial, trivial⟩ | fail) | fail))
  refine AK.cond (by rfl) (fun hb => ?_) (fun hb => ?_)
  · have hlt : k < v.m.length := by simpa [rowsM_len] using hb
    obtain ⟨⟨y, z⟩, hg⟩ : ∃ x, v.m[k]? = some x := ⟨_, List.getElem?_eq_getElem hlt⟩
    have hst := rputF_take (key := key) (x := x) hg
    (repeat (first | apply AK.seq | apply AK.block | apply AK.blk | apply AK.skip | (refine AK.reg follows_any (rs := []) (by rfl) ?_ ?_; first | exact trivial | exact ⟨trivial, trivial⟩ | exact ⟨trivial, trivial, trivial⟩ | exact ⟨trivial, trivial, trivial, trivial⟩ | fail) | fail))
    refine AK.reg follows_any (rs := [.c (.str y :: [.int .i64 (z).kind, .bool (z).b, .int .i64 (z).n, .str (z).s, .lst .any 6 (rowsV (z).l), .lst .any 7 (rowsM (z).m)])]) (by rfl) ?_ ?_
    · ((repeat' apply And.intro) <;> first | trivial | omega | (simp only [List.length_nil, List.length_cons]; omega) | (intro hgd; first | (rw [hgd]; rfl) | (refine ⟨?_, by repeat (first | exact trivial | refine ⟨hgd, ?_⟩)⟩; (repeat' apply And.intro) <;> first | trivial | omega | (intro h2; rw [hgd, h2]; rfl) | skip)) | skip)
      · exact rowsM_at hg
    refine AK.cond (by rfl) (fun hb => ?_) (fun hb => ?_)
    · have h1 : (!Op.bytesLess y.toList key.toList && !(rputF key x (v.m.take k)).2) = true := hb
      (repeat (first | apply AK.seq | apply AK.block | apply AK.blk | apply AK.skip | (refine AK.reg follows_any (rs := []) (by rfl) ?_ ?_; first | exact trivial | exact ⟨trivial, trivial⟩ | exact ⟨trivial, trivial, trivial⟩ | exact ⟨trivial, trivial, trivial, trivial⟩ | fail) | fail))
      refine AK.reg follows_any (rs := []) (by rfl) ?_ ?_
      · ((repeat' apply And.intro) <;> first | trivial | omega | (simp only [List.length_nil, List.length_cons]; omega) | (intro hgd; first | (rw [hgd]; rfl) | (refine ⟨?_, by repeat (first | exact trivial | refine ⟨hgd, ?_⟩)⟩; (repeat' apply And.intro) <;> first | trivial | omega | (intro h2; rw [hgd, h2]; rfl) | skip)) | skip)
        all_goals simp only [rowsM_len, List.length_nil, List.length_cons]
        all_goals omega
      (repeat (first | apply AK.seq | apply AK.block | apply AK.blk | apply AK.skip | (refine AK.reg follows_any (rs := []) (by rfl) ?_ ?_; first | exact trivial | exact ⟨trivial, trivial⟩ | exact ⟨trivial, trivial, trivial⟩ | exact ⟨trivial, trivial, trivial, trivial⟩ | fail) | fail))
      refine AK.reg follows_any (rs := [.c (.str y :: [.int .i64 (z).kind, .bool (z).b, .int .i64 (z).n, .str (z).s, .lst .any 6 (rowsV (z).l), .lst .any 7 (rowsM (z).m)])]) (by rfl) ?_ ?_
      · ((repeat' apply And.intro) <;> first | trivial | omega | (simp only [List.length_nil, List.length_cons]; omega) | (intro hgd; first | (rw [hgd]; rfl) | (refine ⟨?_, by repeat (first | exact trivial | refine ⟨hgd, ?_⟩)⟩; (repeat' apply And.intro) <;> first | trivial | omega | (intro h2; rw [hgd, h2]; rfl) | skip)) | skip)
        · exact rowsM_at hg
      refine AK.cond (by rfl) (fun hb => ?_) (fun hb => ?_)
      · have h2 : ¬ y = key := by simpa using hb
        (repeat (first | apply AK.seq | apply AK.block | apply AK.blk | apply AK.skip | (refine AK.reg follows_any (rs := []) (by rfl) ?_ ?_; first | exact trivial | exact ⟨trivial, trivial⟩ | exact ⟨trivial, trivial, trivial⟩ | exact ⟨trivial, trivial, trivial, trivial⟩ | fail) | fail))
        refine AK.reg follows_any (rs := [.c (.str y :: [.int .i64 (z).kind, .bool (z).b, .int .i64 (z).n, .str (z).s, .lst .any 6 (rowsV (z).l), .lst .any 7 (rowsM (z).m)])]) (by rfl) ?_ ?_
        · ((repeat' apply And.intro) <;> first | trivial | omega | (simp only [List.length_nil, List.length_cons]; omega) | (intro hgd; first | (rw [hgd]; rfl) | (refine ⟨?_, by repeat (first | exact trivial | refine ⟨hgd, ?_⟩)⟩; (repeat' apply And.intro) <;> first | trivial | omega | (intro h2; rw [hgd, h2]; rfl) | skip)) | skip)
          · exact rowsM_at hg
          all_goals simp only [rowsM_len, List.length_append, List.length_nil, List.length_cons]
          all_goals omega
        (repeat (first | apply AK.seq | apply AK.block | apply AK.blk | apply AK.skip | (refine AK.reg follows_any (rs := []) (by rfl) ?_ ?_; first | exact trivial | exact ⟨trivial, trivial⟩ | exact ⟨trivial, trivial, trivial⟩ | exact ⟨trivial, trivial, trivial, trivial⟩ | fail) | fail))
        refine AK.lp ⟨(k + 1, _), by dsimp only; omega, Weak.intro ⟨⟨_, rfl, .refl _⟩, ⟨_, rfl, .refl _⟩, ⟨_, rfl, .refl _⟩, ⟨_, rfl, .refl _⟩, ⟨_, rfl, .refl _⟩, ⟨_, rfl, .of_eq (congrArg AV.bool ?_)⟩, ⟨_, rfl, .of_eq (congrArg _ (by first | omega | (rw [wrap_in (by omega) (by omega)]; omega)))⟩, trivial⟩ ⟨⟨_, rfl, leL_refl _⟩, ⟨_, rfl, leL_refl _⟩, ⟨_, rfl, leL_refl _⟩, ⟨_, rfl, ⟨.refl _, .refl _, .refl _, .refl _, .refl _, lst_le ?_, trivial⟩⟩, trivial⟩ rfl rfl, by dsimp only; omega⟩
        · rw [hst]; simp [rputS, h1, h2]
        · rw [hst]; simp only [rputS, h1, h2, if_true, ne_eq, not_false_eq_true, rowsM_append, rowsM, cellsV_eq]; rfl
      · have h2 : y = key := by simpa using hb
        subst h2
        (repeat (first | apply AK.seq | apply AK.block | apply AK.blk | apply AK.skip | (refine AK.reg follows_any (rs := []) (by rfl) ?_ ?_; first | exact trivial | exact ⟨trivial, trivial⟩ | exact ⟨trivial, trivial, trivial⟩ | exact ⟨trivial, trivial, trivial, trivial⟩ | fail) | fail))
        refine AK.lp ⟨(k + 1, _), by dsimp only; omega, Weak.intro ⟨⟨_, rfl, .refl _⟩, ⟨_, rfl, .refl _⟩, ⟨_, rfl, .refl _⟩, ⟨_, rfl, .refl _⟩, ⟨_, rfl, .refl _⟩, ⟨_, rfl, .of_eq (congrArg AV.bool ?_)⟩, ⟨_, rfl, .of_eq (congrArg _ (by first | omega | (rw [wrap_in (by omega) (by omega)]; omega)))⟩, trivial⟩ ⟨⟨_, rfl, leL_refl _⟩, ⟨_, rfl, leL_refl _⟩, ⟨_, rfl, leL_refl _⟩, ⟨_, rfl, ⟨.refl _, .refl _, .refl _, .refl _, .refl _, lst_le ?_, trivial⟩⟩, trivial⟩ rfl rfl, by dsimp only; omega⟩
        · rw [hst]; simp only [rputS, h1, if_true, ne_eq, not_true_eq_false, if_false]
        · rw [hst]; simp only [rputS, h1, if_true, ne_eq, not_true_eq_false, if_false, rowsM_append, rowsM, cellsV_eq]; rfl
    · have h1 : (!Op.bytesLess y.toList key.toList && !(rputF key x (v.m.take k)).2) = false := hb
      (repeat (first | apply AK.seq | apply AK.block | apply AK.blk | apply AK.skip | (refine AK.reg follows_any (rs := []) (by rfl) ?_ ?_; first | exact trivial | exact ⟨trivial, trivial⟩ | exact ⟨trivial, trivial, trivial⟩ | exact ⟨trivial, trivial, trivial, trivial⟩ | fail) | fail))
      refine AK.reg follows_any (rs := [.c (.str y :: [.int .i64 (z).kind, .bool (z).b, .int .i64 (z).n, .str (z).s, .lst .any 6 (rowsV (z).l), .lst .any 7 (rowsM (z).m)])]) (by rfl) ?_ ?_
      · ((repeat' apply And.intro) <;> first | trivial | omega | (simp only [List.length_nil, List.length_cons]; omega) | (intro hgd; first | (rw [hgd]; rfl) | (refine ⟨?_, by repeat (first | exact trivial | refine ⟨hgd, ?_⟩)⟩; (repeat' apply And.intro) <;> first | trivial | omega | (intro h2; rw [hgd, h2]; rfl) | skip)) | skip)
        · exact rowsM_at hg
      refine AK.cond (by rfl) (fun hb => ?_) (fun hb => ?_)
      · have h2 : ¬ y = key := by simpa using hb
        (repeat (first | apply AK.seq | apply AK.block | apply AK.blk | apply AK.skip | (refine AK.reg follows_any (rs := []) (by rfl) ?_ ?_; first | exact trivial | exact ⟨trivial, trivial⟩ | exact ⟨trivial, trivial, trivial⟩ | exact ⟨trivial, trivial, trivial, trivial⟩ | fail) | fail))
        refine AK.reg follows_any (rs := [.c (.str y :: [.int .i64 (z).kind, .bool (z).b, .int .i64 (z).n, .str (z).s, .lst .any 6 (rowsV (z).l), .lst .any 7 (rowsM (z).m)])]) (by rfl) ?_ ?_
        · ((repeat' apply And.intro) <;> first | trivial | omega | (simp only [List.length_nil, List.length_cons]; omega) | (intro hgd; first | (rw [hgd]; rfl) | (refine ⟨?_, by repeat (first | exact trivial | refine ⟨hgd, ?_⟩)⟩; (repeat' apply And.intro) <;> first | trivial | omega | (intro h2; rw [hgd, h2]; rfl) | skip)) | skip)
          · exact rowsM_at hg
          all_goals simp only [rowsM_len, List.length_append, List.length_nil, List.length_cons]
          all_goals omega
        (repeat (first | apply AK.seq | apply AK.block | apply AK.blk | apply AK.skip | (refine AK.reg follows_any (rs := []) (by rfl) ?_ ?_; first | exact trivial | exact ⟨trivial, trivial⟩ | exact ⟨trivial, trivial, trivial⟩ | exact ⟨trivial, trivial, trivial, trivial⟩ | fail) | fail))
        refine AK.lp ⟨(k + 1, _), by dsimp only; omega, Weak.intro ⟨⟨_, rfl, .refl _⟩, ⟨_, rfl, .refl _⟩, ⟨_, rfl, .refl _⟩, ⟨_, rfl, .refl _⟩, ⟨_, rfl, .refl _⟩, ⟨_, rfl, .of_eq (congrArg AV.bool ?_)⟩, ⟨_, rfl, .of_eq (congrArg _ (by first | omega | (rw [wrap_in (by omega) (by omega)]; omega)))⟩, trivial⟩ ⟨⟨_, rfl, leL_refl _⟩, ⟨_, rfl, leL_refl _⟩, ⟨_, rfl, leL_refl _⟩, ⟨_, rfl, ⟨.refl _, .refl _, .refl _, .refl _, .refl _, lst_le ?_, trivial⟩⟩, trivial⟩ rfl rfl, by dsimp only; omega⟩
        · rw [hst]; simp [rputS, h1, h2]
        · rw [hst]; simp only [rputS, h1, h2, Bool.false_eq_true, if_false, ne_eq, not_false_eq_true, if_true, rowsM_append, rowsM, cellsV_eq]; rfl
      · have h2 : y = key := by simpa using hb
        subst h2
        (repeat (first | apply AK.seq | apply AK.block | apply AK.blk | apply AK.skip | (refine AK.reg follows_any (rs := []) (by rfl) ?_ ?_; first | exact trivial | exact ⟨trivial, trivial⟩ | exact ⟨trivial, trivial, trivial⟩ | exact ⟨trivial, trivial, trivial, trivial⟩ | fail) | fail))
        refine AK.lp ⟨(k + 1, _), by dsimp only; omega, Weak.intro ⟨⟨_, rfl, .refl _⟩, ⟨_, rfl, .refl _⟩, ⟨_, rfl, .refl _⟩, ⟨_, rfl, .refl _⟩, ⟨_, rfl, .refl _⟩, ⟨_, rfl, .of_eq (congrArg AV.bool ?_)⟩, ⟨_, rfl, .of_eq (congrArg _ (by first | omega | (rw [wrap_in (by omega) (by omega)]; omega)))⟩, trivial⟩ ⟨⟨_, rfl, leL_refl _⟩, ⟨_, rfl, leL_refl _⟩, ⟨_, rfl, leL_refl _⟩, ⟨_, rfl, ⟨.refl _, .refl _, .refl _, .refl _, .refl _, lst_le ?_, trivial⟩⟩, trivial⟩ rfl rfl, by dsimp only; omega⟩
        · rw [hst]; simp only [rputS, h1, Bool.false_eq_true, if_false, ne_eq, not_true_eq_false]
        · rw [hst]; simp only [rputS, h1, Bool.false_eq_true, if_false, ne_eq, not_true_eq_false]
  · have hlt : k = v.m.length := by have : v.m.length ≤ k := by simpa [rowsM_len] using hb
                                    omega
    subst hlt
    refine AK.exit rfl ?_
    rw [List.take_length]
    have hr := hpl
    rw [List.take_length] at hr
    (repeat (first | apply AK.seq | apply AK.block | apply AK.blk | apply AK.skip | (refine AK.reg follows_any (rs := []) (by rfl) ?_ ?_; first | exact trivial | exact ⟨trivial, trivial⟩ | exact ⟨trivial, trivial, trivial⟩ | exact ⟨trivial, trivial, trivial, trivial⟩ | fail) | fail))
    refine AK.cond (by rfl) (fun hb => ?_) (fun hb => ?_)
    · have h1 : (rputF key x v.m).2 = false := by simpa using hb
      (repeat (first | apply AK.seq | apply AK.block | apply AK.blk | apply AK.skip | (refine AK.reg follows_any (rs := []) (by rfl) ?_ ?_; first | exact trivial | exact ⟨trivial, trivial⟩ | exact ⟨trivial, trivial, trivial⟩ | exact ⟨trivial, trivial, trivial, trivial⟩ | fail) | fail))
      refine AK.reg follows_any (rs := []) (by rfl) ?_ ?_
      · ((repeat' apply And.intro) <;> first | trivial | omega | (simp only [List.length_nil, List.length_cons]; omega) | (intro hgd; first | (rw [hgd]; rfl) | (refine ⟨?_, by repeat (first | exact trivial | refine ⟨hgd, ?_⟩)⟩; (repeat' apply And.intro) <;> first | trivial | omega | (intro h2; rw [hgd, h2]; rfl) | skip)) | skip)
        all_goals simp only [rowsM_len, List.length_nil, List.length_cons]
        all_goals omega
      (repeat (first | apply AK.seq | apply AK.block | apply AK.blk | apply AK.skip | (refine AK.reg follows_any (rs := []) (by rfl) ?_ ?_; first | exact trivial | exact ⟨trivial, trivial⟩ | exact ⟨trivial, trivial, trivial⟩ | exact ⟨trivial, trivial, trivial, trivial⟩ | fail) | fail))
      refine AK.ret ⟨_, rfl, ?_⟩
      simp only [rput, h1, Bool.false_eq_true, if_false, rowsM_append, rowsM, cellsV_eq]
      rfl
    · have h1 : (rputF key x v.m).2 = true := by simpa using hb
      (repeat (first | apply AK.seq | apply AK.block | apply AK.blk | apply AK.skip | (refine AK.reg follows_any (rs := []) (by rfl) ?_ ?_; first | exact trivial | exact ⟨trivial, trivial⟩ | exact ⟨trivial, trivial, trivial⟩ | exact ⟨trivial, trivial, trivial, trivial⟩ | fail) | fail))
      refine AK.ret ⟨_, rfl, ?_⟩
      simp only [rput, h1, if_true]
      rfl
end Go.Proofs.Ytamecdecpmklmaa
