/-
  The document's Put and Drop of a map, walked.
-/
import Derived.Test.YtfnpjakekeojoaaGreatDoorDriftG
import Derived.Test.YtfnpjakekeojoaaGreatDoorMap
import Derived.Test.YtfnpjakekeojoaaGreatDoorOv1
import Derived.Test.YtfnpjakekeojoaaGreatDoorLj1
import Derived.Test.YtfnpjakekeojoaaGreatDoorLl1
import Derived.Test.YtfnpjakekeojoaaGreatDoorFrame
namespace Go.Proofs.YtfnpjakekeojoaaGreatDoor
set_option linter.unusedSimpArgs false
set_option linter.unusedVariables false
open Go.RowKit

/-- one step of the document's Put -/
def rputS (key : ByteArray) (x : V) (s : List (ByteArray × V) × Bool) (p : ByteArray × V) : List (ByteArray × V) × Bool :=
  let t := if (!Op.bytesLess p.1.toList key.toList && !s.2) = true then (s.1 ++ [(key, x)], true) else s
  if p.1 ≠ key then (t.1 ++ [p], t.2) else t
def rputF (key : ByteArray) (x : V) (m : List (ByteArray × V)) : List (ByteArray × V) × Bool := m.foldl (rputS key x) ([], false)
def rput (key : ByteArray) (x : V) (m : List (ByteArray × V)) : List (ByteArray × V) := if (rputF key x m).2 then (rputF key x m).1 else (rputF key x m).1 ++ [(key, x)]
theorem rputF_take {key : ByteArray} {x : V} {m : List (ByteArray × V)} {k : Nat} {p : ByteArray × V} (h : m[k]? = some p) : rputF key x (m.take (k + 1)) = rputS key x (rputF key x (m.take k)) p := by
  rw [rputF, take_snoc h, List.foldl_append]
  rfl
theorem rputS_len (key : ByteArray) (x : V) (s : List (ByteArray × V) × Bool) (p : ByteArray × V) : (rputS key x s p).1.length ≤ s.1.length + 2 := by
  unfold rputS
  split <;> split <;> simp
theorem rputF_len (key : ByteArray) (x : V) (m : List (ByteArray × V)) : (rputF key x m).1.length ≤ 2 * m.length := by
  have : ∀ (m : List (ByteArray × V)) s, (m.foldl (rputS key x) s).1.length ≤ s.1.length + 2 * m.length := by
    intro m
    induction m with
    | nil => intro s; simp
    | cons p m ih => intro s; have := ih (rputS key x s p); have := rputS_len key x s p; simp only [List.foldl_cons, List.length_cons]; omega
  have h := this m ([], false)
  simp only [List.length_nil, Nat.zero_add] at h
  exact h
theorem rput_eq {key : ByteArray} {x : V} {m : List (ByteArray × V)} (h : Rises m) : rput key x m = minsert key x m := by
  have A : ∀ (m out : List (ByteArray × V)), (∀ p ∈ m, klt key p.1) → m.foldl (rputS key x) (out, true) = (out ++ m, true) := by
    intro m
    induction m with
    | nil => intro out _; simp
    | cons p m ih =>
      intro out hp
      have h1 : rputS key x (out, true) p = (out ++ [p], true) := by
        have hne : ¬ p.1 = key := fun e => klt_ne (hp p (by simp)) e.symm
        simp [rputS, hne]
      rw [List.foldl_cons, h1, ih _ fun q hq => hp q (by simp [hq])]
      simp
  have B : ∀ (m out : List (ByteArray × V)), Rises m → (if (m.foldl (rputS key x) (out, false)).2 then (m.foldl (rputS key x) (out, false)).1 else (m.foldl (rputS key x) (out, false)).1 ++ [(key, x)]) = out ++ minsert key x m := by
    intro m
    induction m with
    | nil => intro out _; simp [minsert]
    | cons p m ih =>
      intro out hm
      obtain ⟨k, y⟩ := p
      have hc := List.pairwise_cons.1 hm
      rw [List.foldl_cons, minsert]
      by_cases hlt : cmpS k key < 0
      · have hk := cmpS_lt.1 hlt
        have h1 : rputS key x (out, false) (k, y) = (out ++ [(k, y)], false) := by
          have hk' : Op.bytesLess k.toList key.toList = true := hk
          simp [rputS, hk', klt_ne hk]
        rw [h1, ih _ hc.2, if_pos hlt]
        simp
      · have hnk : Op.bytesLess k.toList key.toList = false := by
          cases hb : Op.bytesLess k.toList key.toList with
          | false => rfl
          | true => exact absurd (cmpS_lt.2 hb) hlt
        rw [if_neg hlt]
        by_cases he : cmpS k key = 0
        · have := cmpS_eq.1 he
          subst this
          have h1 : rputS k x (out, false) (k, y) = (out ++ [(k, x)], true) := by simp [rputS, hnk]
          rw [h1, A _ _ (fun q hq => hc.1 q hq), if_pos he]
          simp
        · have hk := klt_tri hlt he
          have h1 : rputS key x (out, false) (k, y) = (out ++ [(key, x)] ++ [(k, y)], true) := by
            have hne : ¬ k = key := fun e => klt_ne hk e.symm
            simp [rputS, hnk, hne]
          rw [h1, A _ _ (fun q hq => klt_trans hk (hc.1 q hq)), if_neg he]
          simp
  have h0 := B m [] h
  rw [List.nil_append] at h0
  exact h0
theorem lst_le {st : St} {t : Tag} {esz : Nat} {l l' : List (List AV)} (h : l = l') : AVle1 st (.lst t esz l) (.lst t esz l') := h ▸ .refl _
theorem refPut_a (v x : V) (key : ByteArray) (hsz : v.size ≤ 1000000) : AC Tryz.prog 36 [.agg [.int .i64 (v).kind, .bool (v).b, .int .i64 (v).n, .str (v).s, .lst .any 6 (rowsV (v).l), .lst .any 7 (rowsM (v).m)], .str key, .agg [.int .i64 (x).kind, .bool (x).b, .int .i64 (x).n, .str (x).s, .lst .any 6 (rowsV (x).l), .lst .any 7 (rowsM (x).m)]] (.agg [.int .i64 5, .bool false, .int .i64 0, .str ⟨#[]⟩, .lst .any 6 [], .lst .any 7 (rowsM (rput key x v.m))]) := by
  have hve := v.size_eq
  have hlm := len_le_sizeM v.m
  refine AC.enter Tryz.func36 a_ref01_Put_ok a_ref01_Put_cb (by rfl) fun E hE => ?_
  show AK _ _ _ [.c b_ref01_Put] _ _
  rw [b_ref01_Put]
  (repeat (first | apply kS | apply kB | apply kL | apply kN | (refine kR follows_any [] (by rfl) ?_ ?_; first | exact kT1 | exact kT2 | exact kT3 | exact kT4)))
  refine AK.loopI (fun i : Nat × (Nat → Nat) => (frOf [(1, .str key), (3, .ptr 3 0), (5, .ptr 5 0), (6, .ptr 6 0), (7, .ptr 7 0), (8, .bool (rputF key x (v.m.take i.1)).2), (9, .int .i64 i.1)], ⟨boxOf [(3, [.int .i64 (v).kind, .bool (v).b, .int .i64 (v).n, .str (v).s, .lst .any 6 (rowsV (v).l), .lst .any 7 (rowsM (v).m)], false), (5, [.int .i64 (x).kind, .bool (x).b, .int .i64 (x).n, .str (x).s, .lst .any 6 (rowsV (x).l), .lst .any 7 (rowsM (x).m)], false), (6, zeroAVs, false), (7, [.int .i64 5, .bool false, .int .i64 0, .str ⟨#[]⟩, .lst .nil 6 [], .lst (.own 36 (i.2 36)) 7 (rowsM (rputF key x (v.m.take i.1)).1)], false)], i.2⟩))
    (fun i => i.1 ≤ v.m.length) (fun i => v.m.length - i.1) (0, fun _ => 0) (by simp) (Weak.intro ⟨⟨_, rfl, .refl _⟩, ⟨_, rfl, .refl _⟩, ⟨_, rfl, .refl _⟩, ⟨_, rfl, .refl _⟩, ⟨_, rfl, .refl _⟩, ⟨_, rfl, .refl _⟩, ⟨_, rfl, .refl _⟩, trivial⟩ ⟨⟨_, rfl, leL_refl _⟩, ⟨_, rfl, leL_refl _⟩, ⟨_, rfl, leL_refl _⟩, ⟨_, rfl, ⟨.refl _, .refl _, .refl _, .refl _, .refl _, .own _ _ _ _, trivial⟩⟩, trivial⟩ rfl rfl) fun ⟨k, r⟩ hk => ?_
  dsimp only at hk
  have hpl := rputF_len key x (v.m.take k)
  rw [List.length_take] at hpl
  (repeat (first | apply kS | apply kB | apply kL | apply kN | (refine kR follows_any [] (by rfl) ?_ ?_; first | exact kT1 | exact kT2 | exact kT3 | exact kT4)))
  refine AK.cond (by rfl) (fun hb => ?_) (fun hb => ?_)
  · have hlt : k < v.m.length := by simpa [rowsM_len] using hb
    obtain ⟨⟨y, z⟩, hg⟩ : ∃ x, v.m[k]? = some x := ⟨_, List.getElem?_eq_getElem hlt⟩
    have hst := rputF_take (key := key) (x := x) hg
    (repeat (first | apply kS | apply kB | apply kL | apply kN | (refine kR follows_any [] (by rfl) ?_ ?_; first | exact kT1 | exact kT2 | exact kT3 | exact kT4)))
    refine kR follows_any [.c (.str y :: [.int .i64 (z).kind, .bool (z).b, .int .i64 (z).n, .str (z).s, .lst .any 6 (rowsV (z).l), .lst .any 7 (rowsM (z).m)])] (by rfl) ?_ ?_
    · ((repeat' apply And.intro) <;> first | trivial | omega | (simp only [List.length_nil, List.length_cons]; omega) | (intro hgd; first | (rw [hgd]; rfl) | (refine ⟨?_, by repeat (first | exact trivial | refine ⟨hgd, ?_⟩)⟩; (repeat' apply And.intro) <;> first | trivial | omega | (intro h2; rw [hgd, h2]; rfl) | skip)) | skip)
      · exact rowsM_at hg
    refine AK.cond (by rfl) (fun hb => ?_) (fun hb => ?_)
    · have h1 : (!Op.bytesLess y.toList key.toList && !(rputF key x (v.m.take k)).2) = true := hb
      (repeat (first | apply kS | apply kB | apply kL | apply kN | (refine kR follows_any [] (by rfl) ?_ ?_; first | exact kT1 | exact kT2 | exact kT3 | exact kT4)))
      refine kR follows_any [] (by rfl) ?_ ?_
      · ((repeat' apply And.intro) <;> first | trivial | omega | (simp only [List.length_nil, List.length_cons]; omega) | (intro hgd; first | (rw [hgd]; rfl) | (refine ⟨?_, by repeat (first | exact trivial | refine ⟨hgd, ?_⟩)⟩; (repeat' apply And.intro) <;> first | trivial | omega | (intro h2; rw [hgd, h2]; rfl) | skip)) | skip)
        all_goals simp only [rowsM_len, List.length_nil, List.length_cons]
        all_goals omega
      (repeat (first | apply kS | apply kB | apply kL | apply kN | (refine kR follows_any [] (by rfl) ?_ ?_; first | exact kT1 | exact kT2 | exact kT3 | exact kT4)))
      refine kR follows_any [.c (.str y :: [.int .i64 (z).kind, .bool (z).b, .int .i64 (z).n, .str (z).s, .lst .any 6 (rowsV (z).l), .lst .any 7 (rowsM (z).m)])] (by rfl) ?_ ?_
      · ((repeat' apply And.intro) <;> first | trivial | omega | (simp only [List.length_nil, List.length_cons]; omega) | (intro hgd; first | (rw [hgd]; rfl) | (refine ⟨?_, by repeat (first | exact trivial | refine ⟨hgd, ?_⟩)⟩; (repeat' apply And.intro) <;> first | trivial | omega | (intro h2; rw [hgd, h2]; rfl) | skip)) | skip)
        · exact rowsM_at hg
      refine AK.cond (by rfl) (fun hb => ?_) (fun hb => ?_)
      · have h2 : ¬ y = key := by simpa using hb
        (repeat (first | apply kS | apply kB | apply kL | apply kN | (refine kR follows_any [] (by rfl) ?_ ?_; first | exact kT1 | exact kT2 | exact kT3 | exact kT4)))
        refine kR follows_any [.c (.str y :: [.int .i64 (z).kind, .bool (z).b, .int .i64 (z).n, .str (z).s, .lst .any 6 (rowsV (z).l), .lst .any 7 (rowsM (z).m)])] (by rfl) ?_ ?_
        · ((repeat' apply And.intro) <;> first | trivial | omega | (simp only [List.length_nil, List.length_cons]; omega) | (intro hgd; first | (rw [hgd]; rfl) | (refine ⟨?_, by repeat (first | exact trivial | refine ⟨hgd, ?_⟩)⟩; (repeat' apply And.intro) <;> first | trivial | omega | (intro h2; rw [hgd, h2]; rfl) | skip)) | skip)
          · exact rowsM_at hg
          all_goals simp only [rowsM_len, List.length_append, List.length_nil, List.length_cons]
          all_goals omega
        (repeat (first | apply kS | apply kB | apply kL | apply kN | (refine kR follows_any [] (by rfl) ?_ ?_; first | exact kT1 | exact kT2 | exact kT3 | exact kT4)))
        refine AK.lp ⟨(k + 1, _), by dsimp only; omega, Weak.intro ⟨⟨_, rfl, .refl _⟩, ⟨_, rfl, .refl _⟩, ⟨_, rfl, .refl _⟩, ⟨_, rfl, .refl _⟩, ⟨_, rfl, .refl _⟩, ⟨_, rfl, .of_eq (congrArg AV.bool ?_)⟩, ⟨_, rfl, .of_eq (congrArg _ (by first | omega | (rw [wrap_in (by omega) (by omega)]; omega)))⟩, trivial⟩ ⟨⟨_, rfl, leL_refl _⟩, ⟨_, rfl, leL_refl _⟩, ⟨_, rfl, leL_refl _⟩, ⟨_, rfl, ⟨.refl _, .refl _, .refl _, .refl _, .refl _, lst_le ?_, trivial⟩⟩, trivial⟩ rfl rfl, by dsimp only; omega⟩
        · rw [hst]; simp [rputS, h1, h2]
        · rw [hst]; simp only [rputS, h1, h2, if_true, ne_eq, not_false_eq_true, rowsM_append, rowsM, cellsV_eq]; rfl
      · have h2 : y = key := by simpa using hb
        subst h2
        (repeat (first | apply kS | apply kB | apply kL | apply kN | (refine kR follows_any [] (by rfl) ?_ ?_; first | exact kT1 | exact kT2 | exact kT3 | exact kT4)))
        refine AK.lp ⟨(k + 1, _), by dsimp only; omega, Weak.intro ⟨⟨_, rfl, .refl _⟩, ⟨_, rfl, .refl _⟩, ⟨_, rfl, .refl _⟩, ⟨_, rfl, .refl _⟩, ⟨_, rfl, .refl _⟩, ⟨_, rfl, .of_eq (congrArg AV.bool ?_)⟩, ⟨_, rfl, .of_eq (congrArg _ (by first | omega | (rw [wrap_in (by omega) (by omega)]; omega)))⟩, trivial⟩ ⟨⟨_, rfl, leL_refl _⟩, ⟨_, rfl, leL_refl _⟩, ⟨_, rfl, leL_refl _⟩, ⟨_, rfl, ⟨.refl _, .refl _, .refl _, .refl _, .refl _, lst_le ?_, trivial⟩⟩, trivial⟩ rfl rfl, by dsimp only; omega⟩
        · rw [hst]; simp only [rputS, h1, if_true, ne_eq, not_true_eq_false, if_false]
        · rw [hst]; simp only [rputS, h1, if_true, ne_eq, not_true_eq_false, if_false, rowsM_append, rowsM, cellsV_eq]; rfl
    · have h1 : (!Op.bytesLess y.toList key.toList && !(rputF key x (v.m.take k)).2) = false := hb
      (repeat (first | apply kS | apply kB | apply kL | apply kN | (refine kR follows_any [] (by rfl) ?_ ?_; first | exact kT1 | exact kT2 | exact kT3 | exact kT4)))
      refine kR follows_any [.c (.str y :: [.int .i64 (z).kind, .bool (z).b, .int .i64 (z).n, .str (z).s, .lst .any 6 (rowsV (z).l), .lst .any 7 (rowsM (z).m)])] (by rfl) ?_ ?_
      · ((repeat' apply And.intro) <;> first | trivial | omega | (simp only [List.length_nil, List.length_cons]; omega) | (intro hgd; first | (rw [hgd]; rfl) | (refine ⟨?_, by repeat (first | exact trivial | refine ⟨hgd, ?_⟩)⟩; (repeat' apply And.intro) <;> first | trivial | omega | (intro h2; rw [hgd, h2]; rfl) | skip)) | skip)
        · exact rowsM_at hg
      refine AK.cond (by rfl) (fun hb => ?_) (fun hb => ?_)
      · have h2 : ¬ y = key := by simpa using hb
        (repeat (first | apply kS | apply kB | apply kL | apply kN | (refine kR follows_any [] (by rfl) ?_ ?_; first | exact kT1 | exact kT2 | exact kT3 | exact kT4)))
        refine kR follows_any [.c (.str y :: [.int .i64 (z).kind, .bool (z).b, .int .i64 (z).n, .str (z).s, .lst .any 6 (rowsV (z).l), .lst .any 7 (rowsM (z).m)])] (by rfl) ?_ ?_
        · ((repeat' apply And.intro) <;> first | trivial | omega | (simp only [List.length_nil, List.length_cons]; omega) | (intro hgd; first | (rw [hgd]; rfl) | (refine ⟨?_, by repeat (first | exact trivial | refine ⟨hgd, ?_⟩)⟩; (repeat' apply And.intro) <;> first | trivial | omega | (intro h2; rw [hgd, h2]; rfl) | skip)) | skip)
          · exact rowsM_at hg
          all_goals simp only [rowsM_len, List.length_append, List.length_nil, List.length_cons]
          all_goals omega
        (repeat (first | apply kS | apply kB | apply kL | apply kN | (refine kR follows_any [] (by rfl) ?_ ?_; first | exact kT1 | exact kT2 | exact kT3 | exact kT4)))
        refine AK.lp ⟨(k + 1, _), by dsimp only; omega, Weak.intro ⟨⟨_, rfl, .refl _⟩, ⟨_, rfl, .refl _⟩, ⟨_, rfl, .refl _⟩, ⟨_, rfl, .refl _⟩, ⟨_, rfl, .refl _⟩, ⟨_, rfl, .of_eq (congrArg AV.bool ?_)⟩, ⟨_, rfl, .of_eq (congrArg _ (by first | omega | (rw [wrap_in (by omega) (by omega)]; omega)))⟩, trivial⟩ ⟨⟨_, rfl, leL_refl _⟩, ⟨_, rfl, leL_refl _⟩, ⟨_, rfl, leL_refl _⟩, ⟨_, rfl, ⟨.refl _, .refl _, .refl _, .refl _, .refl _, lst_le ?_, trivial⟩⟩, trivial⟩ rfl rfl, by dsimp only; omega⟩
        · rw [hst]; simp [rputS, h1, h2]
        · rw [hst]; simp only [rputS, h1, h2, Bool.false_eq_true, if_false, ne_eq, not_false_eq_true, if_true, rowsM_append, rowsM, cellsV_eq]; rfl
      · have h2 : y = key := by simpa using hb
        subst h2
        (repeat (first | apply kS | apply kB | apply kL | apply kN | (refine kR follows_any [] (by rfl) ?_ ?_; first | exact kT1 | exact kT2 | exact kT3 | exact kT4)))
        refine AK.lp ⟨(k + 1, _), by dsimp only; omega, Weak.intro ⟨⟨_, rfl, .refl _⟩, ⟨_, rfl, .refl _⟩, ⟨_, rfl, .refl _⟩, ⟨_, rfl, .refl _⟩, ⟨_, rfl, .refl _⟩, ⟨_, rfl, .of_eq (congrArg AV.bool ?_)⟩, ⟨_, rfl, .of_eq (congrArg _ (by first | omega | (rw [wrap_in (by omega) (by omega)]; omega)))⟩, trivial⟩ ⟨⟨_, rfl, leL_refl _⟩, ⟨_, rfl, leL_refl _⟩, ⟨_, rfl, leL_refl _⟩, ⟨_, rfl, ⟨.refl _, .refl _, .refl _, .refl _, .refl _, lst_le ?_, trivial⟩⟩, trivial⟩ rfl rfl, by dsimp only; omega⟩
        · rw [hst]; simp only [rputS, h1, Bool.false_eq_true, if_false, ne_eq, not_true_eq_false]
        · rw [hst]; simp only [rputS, h1, Bool.false_eq_true, if_false, ne_eq, not_true_eq_false]
  · have hlt : k = v.m.length := by have : v.m.length ≤ k := by simpa [rowsM_len] using hb
                                    omega
    subst hlt
    refine AK.exit rfl ?_
    rw [List.take_length]
    have hr := hpl
    rw [List.take_length] at hr
    (repeat (first | apply kS | apply kB | apply kL | apply kN | (refine kR follows_any [] (by rfl) ?_ ?_; first | exact kT1 | exact kT2 | exact kT3 | exact kT4)))
    refine AK.cond (by rfl) (fun hb => ?_) (fun hb => ?_)
    · have h1 : (rputF key x v.m).2 = false := by simpa using hb
      (repeat (first | apply kS | apply kB | apply kL | apply kN | (refine kR follows_any [] (by rfl) ?_ ?_; first | exact kT1 | exact kT2 | exact kT3 | exact kT4)))
      refine kR follows_any [] (by rfl) ?_ ?_
      · ((repeat' apply And.intro) <;> first | trivial | omega | (simp only [List.length_nil, List.length_cons]; omega) | (intro hgd; first | (rw [hgd]; rfl) | (refine ⟨?_, by repeat (first | exact trivial | refine ⟨hgd, ?_⟩)⟩; (repeat' apply And.intro) <;> first | trivial | omega | (intro h2; rw [hgd, h2]; rfl) | skip)) | skip)
        all_goals simp only [rowsM_len, List.length_nil, List.length_cons]
        all_goals omega
      (repeat (first | apply kS | apply kB | apply kL | apply kN | (refine kR follows_any [] (by rfl) ?_ ?_; first | exact kT1 | exact kT2 | exact kT3 | exact kT4)))
      refine AK.ret ⟨_, rfl, ?_⟩
      simp only [rput, h1, Bool.false_eq_true, if_false, rowsM_append, rowsM, cellsV_eq]
      rfl
    · have h1 : (rputF key x v.m).2 = true := by simpa using hb
      (repeat (first | apply kS | apply kB | apply kL | apply kN | (refine kR follows_any [] (by rfl) ?_ ?_; first | exact kT1 | exact kT2 | exact kT3 | exact kT4)))
      refine AK.ret ⟨_, rfl, ?_⟩
      simp only [rput, h1, if_true]
      rfl
end Go.Proofs.YtfnpjakekeojoaaGreatDoor
/-
  The document's Strip and Over, walked.
-/
namespace Go.Proofs.YtfnpjakekeojoaaGreatDoor
set_option linter.unusedSimpArgs false
set_option linter.unusedVariables false
open Go.RowKit

theorem stripM_len (f : V → V) (m : List (ByteArray × V)) : (stripM f m).length ≤ m.length := List.length_filterMap_le _ _
theorem refStrip_a (n : Nat) : ∀ v : V, v.size ≤ n → v.size ≤ 1000000 → AC Tryz.prog 34 [.agg [.int .i64 (v).kind, .bool (v).b, .int .i64 (v).n, .str (v).s, .lst .any 6 (rowsV (v).l), .lst .any 7 (rowsM (v).m)]] (.agg [.int .i64 ((stripN n v)).kind, .bool ((stripN n v)).b, .int .i64 ((stripN n v)).n, .str ((stripN n v)).s, .lst .any 6 (rowsV ((stripN n v)).l), .lst .any 7 (rowsM ((stripN n v)).m)]) := by
  induction n with
  | zero => intro v h; have := v.size_pos; omega
  | succ n ih =>
    intro v hn hsz
    have hve := v.size_eq
    have hlm := len_le_sizeM v.m
    refine AC.enter Tryz.func34 a_ref03_Strip_ok a_ref03_Strip_cb (by rfl) fun E hE => ?_
    show AK _ _ _ [.c b_ref03_Strip] _ _
    rw [b_ref03_Strip]
    (repeat (first | apply kS | apply kB | apply kL | apply kN | (refine kR follows_any [] (by rfl) ?_ ?_; first | exact kT1 | exact kT2 | exact kT3 | exact kT4)))
    refine AK.cond (by rfl) (fun hb => ?_) (fun hb => ?_)
    · have hk : ¬ v.kind = 5 := by simpa using hb
      have hst : stripN (n + 1) v = v := by rw [stripN, if_neg hk]
      (repeat (first | apply kS | apply kB | apply kL | apply kN | (refine kR follows_any [] (by rfl) ?_ ?_; first | exact kT1 | exact kT2 | exact kT3 | exact kT4)))
      refine AK.ret ⟨_, rfl, ?_⟩
      rw [hst]
      rfl
    have hk : v.kind = 5 := by simpa using hb
    have hst : stripN (n + 1) v = vMap (stripM (stripN n) v.m) := by rw [stripN, if_pos hk]
    (repeat (first | apply kS | apply kB | apply kL | apply kN | (refine kR follows_any [] (by rfl) ?_ ?_; first | exact kT1 | exact kT2 | exact kT3 | exact kT4)))
    refine AK.loopI (fun i : Nat × (Nat → Nat) => (frOf [(1, .ptr 1 0), (2, .ptr 2 0), (3, .ptr 3 0), (4, .int .i64 i.1)], ⟨boxOf [(1, [.int .i64 (v).kind, .bool (v).b, .int .i64 (v).n, .str (v).s, .lst .any 6 (rowsV (v).l), .lst .any 7 (rowsM (v).m)], false), (2, [.int .i64 0, .bool false, .int .i64 0, .str ⟨#[]⟩, .lst .nil 6 [], .lst .nil 7 []], false), (3, [.int .i64 5, .bool false, .int .i64 0, .str ⟨#[]⟩, .lst .nil 6 [], .lst (.own 42 (i.2 42)) 7 (rowsM (stripM (stripN n) (v.m.take i.1)))], false)], i.2⟩))
      (fun i => i.1 ≤ v.m.length) (fun i => v.m.length - i.1) (0, fun _ => 0) (by simp) (Weak.intro ⟨⟨_, rfl, .refl _⟩, ⟨_, rfl, .refl _⟩, ⟨_, rfl, .refl _⟩, ⟨_, rfl, .refl _⟩, trivial⟩ ⟨⟨_, rfl, leL_refl _⟩, ⟨_, rfl, leL_refl _⟩, ⟨_, rfl, ⟨.refl _, .refl _, .refl _, .refl _, .refl _, .own _ _ _ _, trivial⟩⟩, trivial⟩ rfl rfl) fun ⟨k, r⟩ hk => ?_
    dsimp only at hk
    have hpl := stripM_len (stripN n) (v.m.take k)
    rw [List.length_take] at hpl
    (repeat (first | apply kS | apply kB | apply kL | apply kN | (refine kR follows_any [] (by rfl) ?_ ?_; first | exact kT1 | exact kT2 | exact kT3 | exact kT4)))
    refine AK.cond (by rfl) (fun hb => ?_) (fun hb => ?_)
    · have hlt : k < v.m.length := by simpa [rowsM_len] using hb
      obtain ⟨⟨y, x⟩, hg⟩ : ∃ x, v.m[k]? = some x := ⟨_, List.getElem?_eq_getElem hlt⟩
      have hxs := mem_sizeM (List.mem_of_getElem? hg)
      simp only at hxs
      have hts := stripM_take (f := stripN n) hg
      have hx := ih x (by omega) (by omega)
      (repeat (first | apply kS | apply kB | apply kL | apply kN | (refine kR follows_any [] (by rfl) ?_ ?_; first | exact kT1 | exact kT2 | exact kT3 | exact kT4)))
      refine kR follows_any [.c (.str y :: [.int .i64 (x).kind, .bool (x).b, .int .i64 (x).n, .str (x).s, .lst .any 6 (rowsV (x).l), .lst .any 7 (rowsM (x).m)])] (by rfl) ?_ ?_
      · ((repeat' apply And.intro) <;> first | trivial | omega | (simp only [List.length_nil, List.length_cons]; omega) | (intro hgd; first | (rw [hgd]; rfl) | (refine ⟨?_, by repeat (first | exact trivial | refine ⟨hgd, ?_⟩)⟩; (repeat' apply And.intro) <;> first | trivial | omega | (intro h2; rw [hgd, h2]; rfl) | skip)) | skip)
        · exact rowsM_at hg
      refine AK.cond (by rfl) (fun hb => ?_) (fun hb => ?_)
      · have hx0 : ¬ x.kind = 0 := by simpa using hb
        (repeat (first | apply kS | apply kB | apply kL | apply kN | (refine kR follows_any [] (by rfl) ?_ ?_; first | exact kT1 | exact kT2 | exact kT3 | exact kT4)))
        refine kR follows_any [.c (.str y :: [.int .i64 (x).kind, .bool (x).b, .int .i64 (x).n, .str (x).s, .lst .any 6 (rowsV (x).l), .lst .any 7 (rowsM (x).m)]), .c (.str y :: [.int .i64 (x).kind, .bool (x).b, .int .i64 (x).n, .str (x).s, .lst .any 6 (rowsV (x).l), .lst .any 7 (rowsM (x).m)]), .v (.agg [.int .i64 ((stripN n x)).kind, .bool ((stripN n x)).b, .int .i64 ((stripN n x)).n, .str ((stripN n x)).s, .lst .any 6 (rowsV ((stripN n x)).l), .lst .any 7 (rowsM ((stripN n x)).m)])] (by rfl) ?_ ?_
        · ((repeat' apply And.intro) <;> first | trivial | omega | (simp only [List.length_nil, List.length_cons]; omega) | (intro hgd; first | (rw [hgd]; rfl) | (refine ⟨?_, by repeat (first | exact trivial | refine ⟨hgd, ?_⟩)⟩; (repeat' apply And.intro) <;> first | trivial | omega | (intro h2; rw [hgd, h2]; rfl) | skip)) | skip)
          · exact rowsM_at hg
          · exact rowsM_at hg
          all_goals simp only [rowsM_len, List.length_append, List.length_nil, List.length_cons]
          all_goals omega
        (repeat (first | apply kS | apply kB | apply kL | apply kN | (refine kR follows_any [] (by rfl) ?_ ?_; first | exact kT1 | exact kT2 | exact kT3 | exact kT4)))
        refine AK.lp ⟨(k + 1, _), by dsimp only; omega, Weak.intro ⟨⟨_, rfl, .refl _⟩, ⟨_, rfl, .refl _⟩, ⟨_, rfl, .refl _⟩, ⟨_, rfl, .of_eq (congrArg _ (by first | omega | (rw [wrap_in (by omega) (by omega)]; omega)))⟩, trivial⟩ ⟨⟨_, rfl, leL_refl _⟩, ⟨_, rfl, leL_refl _⟩, ⟨_, rfl, ⟨.refl _, .refl _, .refl _, .refl _, .refl _, lst_le ?_, trivial⟩⟩, trivial⟩ rfl rfl, by dsimp only; omega⟩
        rw [hts]; dsimp only; rw [if_neg hx0, rowsM_append]; simp only [rowsM, cellsV_eq]; rfl
      · have hx0 : x.kind = 0 := by simpa using hb
        (repeat (first | apply kS | apply kB | apply kL | apply kN | (refine kR follows_any [] (by rfl) ?_ ?_; first | exact kT1 | exact kT2 | exact kT3 | exact kT4)))
        refine AK.lp ⟨(k + 1, _), by dsimp only; omega, Weak.intro ⟨⟨_, rfl, .refl _⟩, ⟨_, rfl, .refl _⟩, ⟨_, rfl, .refl _⟩, ⟨_, rfl, .of_eq (congrArg _ (by first | omega | (rw [wrap_in (by omega) (by omega)]; omega)))⟩, trivial⟩ ⟨⟨_, rfl, leL_refl _⟩, ⟨_, rfl, leL_refl _⟩, ⟨_, rfl, ⟨.refl _, .refl _, .refl _, .refl _, .refl _, lst_le ?_, trivial⟩⟩, trivial⟩ rfl rfl, by dsimp only; omega⟩
        rw [hts]; dsimp only; rw [if_pos hx0, List.append_nil]
    · have hlt : k = v.m.length := by have : v.m.length ≤ k := by simpa [rowsM_len] using hb
                                      omega
      subst hlt
      refine AK.exit rfl ?_
      rw [List.take_length]
      (repeat (first | apply kS | apply kB | apply kL | apply kN | (refine kR follows_any [] (by rfl) ?_ ?_; first | exact kT1 | exact kT2 | exact kT3 | exact kT4)))
      refine AK.ret ⟨_, rfl, ?_⟩
      rw [hst]
      rfl
end Go.Proofs.YtfnpjakekeojoaaGreatDoor
/-
  The document's Over, walked.
-/
namespace Go.Proofs.YtfnpjakekeojoaaGreatDoor
set_option linter.unusedSimpArgs false
set_option linter.unusedVariables false
open Go.RowKit

theorem mO_end {f : V → V → V} {a : List (ByteArray × V)} {i : Nat} {p : ByteArray × V} (h : a[i]? = some p) : mergeO f (a.drop i) [] = p :: mergeO f (a.drop (i + 1)) [] := by
  obtain ⟨ka, xa⟩ := p
  rw [drop_at h, mergeO]
theorem mO_lt {f : V → V → V} {a b : List (ByteArray × V)} {i k : Nat} {p q : ByteArray × V} (h : a[i]? = some p) (hb : b[k]? = some q) (hlt : cmpS p.1 q.1 < 0) : mergeO f (a.drop i) (b.drop k) = p :: mergeO f (a.drop (i + 1)) (b.drop k) := by
  obtain ⟨ka, xa⟩ := p
  obtain ⟨kb, x⟩ := q
  rw [drop_at h, drop_at hb, mergeO, if_pos hlt]
theorem mO_eq {f : V → V → V} {a b : List (ByteArray × V)} {i k : Nat} {key : ByteArray} {xa x : V} (h : a[i]? = some (key, xa)) (hb : b[k]? = some (key, x)) : mergeO f (a.drop i) (b.drop k) = (if x.kind = 0 then [] else [(key, f xa x)]) ++ mergeO f (a.drop (i + 1)) (b.drop (k + 1)) := by
  have h2 : cmpS key key = 0 := cmpS_eq.2 rfl
  rw [drop_at h, drop_at hb, mergeO, if_neg (by omega), if_pos rfl]
  split <;> rfl
theorem mO_gt {f : V → V → V} {a b : List (ByteArray × V)} {i k : Nat} {q : ByteArray × V} (hb : b[k]? = some q) (h : ∀ p, a[i]? = some p → ¬ cmpS p.1 q.1 < 0 ∧ p.1 ≠ q.1) : mergeO f (a.drop i) (b.drop k) = (if q.2.kind = 0 then [] else [(q.1, f V.null q.2)]) ++ mergeO f (a.drop i) (b.drop (k + 1)) := by
  obtain ⟨kb, x⟩ := q
  rw [drop_at hb]
  cases ha : a[i]? with
  | none =>
    have hl := List.getElem?_eq_none_iff.1 ha
    rw [List.drop_eq_nil_of_le hl, mergeO]
    split <;> rfl
  | some p =>
    obtain ⟨ka, xa⟩ := p
    obtain ⟨h1, h2⟩ := h _ ha
    rw [drop_at ha, mergeO, if_neg h1, if_neg h2]
    split <;> rfl
set_option maxHeartbeats 2000000 in
theorem refOver_a (n : Nat) : ∀ a b : V, b.size ≤ n → a.size ≤ 1000000 → b.size ≤ 1000000 → AC Tryz.prog 14 [.agg [.int .i64 (a).kind, .bool (a).b, .int .i64 (a).n, .str (a).s, .lst .any 6 (rowsV (a).l), .lst .any 7 (rowsM (a).m)], .agg [.int .i64 (b).kind, .bool (b).b, .int .i64 (b).n, .str (b).s, .lst .any 6 (rowsV (b).l), .lst .any 7 (rowsM (b).m)]] (.agg [.int .i64 ((overN n a b)).kind, .bool ((overN n a b)).b, .int .i64 ((overN n a b)).n, .str ((overN n a b)).s, .lst .any 6 (rowsV ((overN n a b)).l), .lst .any 7 (rowsM ((overN n a b)).m)]) := by
  induction n with
  | zero => intro a b h; have := b.size_pos; omega
  | succ n ih =>
    intro a b hn ha hbz
    have hae := a.size_eq
    have hbe := b.size_eq
    have hla := len_le_sizeM a.m
    have hlb := len_le_sizeM b.m
    have hS := refStrip_a (n + 1) b hn hbz
    refine AC.enter Tryz.func14 a_ref03_Over_ok a_ref03_Over_cb (by rfl) fun E hE => ?_
    show AK _ _ _ [.c b_ref03_Over] _ _
    rw [b_ref03_Over]
    (repeat (first | apply kS | apply kB | apply kL | apply kN | (refine kR follows_any [] (by rfl) ?_ ?_; first | exact kT1 | exact kT2 | exact kT3 | exact kT4)))
    refine kR follows_any [] (by rfl) ?_ ?_
    · ((repeat' apply And.intro) <;> first | trivial | omega | (simp only [List.length_nil, List.length_cons]; omega) | (intro hgd; first | (rw [hgd]; rfl) | (refine ⟨?_, by repeat (first | exact trivial | refine ⟨hgd, ?_⟩)⟩; (repeat' apply And.intro) <;> first | trivial | omega | (intro h2; rw [hgd, h2]; rfl) | skip)) | skip)
    refine AK.cond (by rfl) (fun hb => ?_) (fun hb => ?_)
    · have hk : ¬ (a.kind = 5 ∧ b.kind = 5) := by
        rintro ⟨h1, h2⟩
        rw [h1, h2] at hb
        cases hb
      have hst : overN (n + 1) a b = stripN (n + 1) b := by rw [overN, if_neg hk]
      (repeat (first | apply kS | apply kB | apply kL | apply kN | (refine kR follows_any [] (by rfl) ?_ ?_; first | exact kT1 | exact kT2 | exact kT3 | exact kT4)))
      refine kR follows_any [.v (.agg [.int .i64 ((stripN (n + 1) b)).kind, .bool ((stripN (n + 1) b)).b, .int .i64 ((stripN (n + 1) b)).n, .str ((stripN (n + 1) b)).s, .lst .any 6 (rowsV ((stripN (n + 1) b)).l), .lst .any 7 (rowsM ((stripN (n + 1) b)).m)])] (by rfl) ?_ ?_
      · ((repeat' apply And.intro) <;> first | trivial | omega | (simp only [List.length_nil, List.length_cons]; omega) | (intro hgd; first | (rw [hgd]; rfl) | (refine ⟨?_, by repeat (first | exact trivial | refine ⟨hgd, ?_⟩)⟩; (repeat' apply And.intro) <;> first | trivial | omega | (intro h2; rw [hgd, h2]; rfl) | skip)) | skip)
      (repeat (first | apply kS | apply kB | apply kL | apply kN | (refine kR follows_any [] (by rfl) ?_ ?_; first | exact kT1 | exact kT2 | exact kT3 | exact kT4)))
      refine AK.ret ⟨_, rfl, ?_⟩
      rw [hst]
      rfl
    have hk : a.kind = 5 ∧ b.kind = 5 := by simpa using hb
    have hst : overN (n + 1) a b = vMap (mergeO (overN n) a.m b.m) := by rw [overN, if_pos hk]
    (repeat (first | apply kS | apply kB | apply kL | apply kN | (refine kR follows_any [] (by rfl) ?_ ?_; first | exact kT1 | exact kT2 | exact kT3 | exact kT4)))
    refine AK.loopI (fun i : (Nat × Nat) × List (ByteArray × V) × (Nat → Nat) => (frOf [(2, .ptr 2 0), (3, .ptr 3 0), (4, .ptr 4 0), (5, .ptr 5 0), (6, .int .i64 i.1.1), (7, .int .i64 i.1.2)], ⟨boxOf [(2, [.int .i64 (a).kind, .bool (a).b, .int .i64 (a).n, .str (a).s, .lst .any 6 (rowsV (a).l), .lst .any 7 (rowsM (a).m)], false), (3, [.int .i64 (b).kind, .bool (b).b, .int .i64 (b).n, .str (b).s, .lst .any 6 (rowsV (b).l), .lst .any 7 (rowsM (b).m)], false), (4, [.int .i64 0, .bool false, .int .i64 0, .str ⟨#[]⟩, .lst .nil 6 [], .lst .nil 7 []], false), (5, [.int .i64 5, .bool false, .int .i64 0, .str ⟨#[]⟩, .lst .nil 6 [], .lst (.own 69 (i.2.2 69)) 7 (rowsM i.2.1)], false)], i.2.2⟩))
      (fun i => i.1.1 ≤ a.m.length ∧ i.1.2 ≤ b.m.length ∧ i.2.1.length ≤ i.1.1 + i.1.2 ∧ i.2.1 ++ mergeO (overN n) (a.m.drop i.1.1) (b.m.drop i.1.2) = mergeO (overN n) a.m b.m) (fun i => (a.m.length - i.1.1) + (b.m.length - i.1.2)) ((0, 0), [], fun _ => 0) ⟨by simp, by simp, by simp, rfl⟩
      (Weak.intro ⟨⟨_, rfl, .refl _⟩, ⟨_, rfl, .refl _⟩, ⟨_, rfl, .refl _⟩, ⟨_, rfl, .refl _⟩, ⟨_, rfl, .refl _⟩, ⟨_, rfl, .refl _⟩, trivial⟩ ⟨⟨_, rfl, leL_refl _⟩, ⟨_, rfl, leL_refl _⟩, ⟨_, rfl, leL_refl _⟩, ⟨_, rfl, ⟨.refl _, .refl _, .refl _, .refl _, .refl _, .own _ _ _ _, trivial⟩⟩, trivial⟩ rfl rfl) fun ⟨⟨i, k⟩, out, r⟩ ⟨hi, hk, ho, hr⟩ => ?_
    dsimp only at hi hk ho hr
    (repeat (first | apply kS | apply kB | apply kL | apply kN | (refine kR follows_any [] (by rfl) ?_ ?_; first | exact kT1 | exact kT2 | exact kT3 | exact kT4)))
    refine kR follows_any [] (by rfl) ?_ ?_
    · ((repeat' apply And.intro) <;> first | trivial | omega | (simp only [List.length_nil, List.length_cons]; omega) | (intro hgd; first | (rw [hgd]; rfl) | (refine ⟨?_, by repeat (first | exact trivial | refine ⟨hgd, ?_⟩)⟩; (repeat' apply And.intro) <;> first | trivial | omega | (intro h2; rw [hgd, h2]; rfl) | skip)) | skip)
    refine AK.cond (by rfl) (fun hb => ?_) (fun hb => ?_)
    · have hlt : i < a.m.length ∨ k < b.m.length := by simpa [rowsM_len] using hb
      obtain ⟨⟨ka, xa⟩, hga⟩ : ∃ p, i < a.m.length → a.m[i]? = some p := ⟨a.m.getD i (⟨#[]⟩, V.null), fun h => by rw [List.getD_eq_getElem?_getD, List.getElem?_eq_getElem h]; rfl⟩
      obtain ⟨⟨kb, x⟩, hgb⟩ : ∃ p, k < b.m.length → b.m[k]? = some p := ⟨b.m.getD k (⟨#[]⟩, V.null), fun h => by rw [List.getD_eq_getElem?_getD, List.getElem?_eq_getElem h]; rfl⟩
      have wi : IntKind.i64.wrap ((i : Int) + 1) = ((i + 1 : Nat) : Int) := by rw [wrap_in (by omega) (by omega)]; omega
      have wk : IntKind.i64.wrap ((k : Int) + 1) = ((k + 1 : Nat) : Int) := by rw [wrap_in (by omega) (by omega)]; omega
      have hra := rowsM_len a.m
      have hrb := rowsM_len b.m
      (repeat (first | apply kS | apply kB | apply kL | apply kN | (refine kR follows_any [] (by rfl) ?_ ?_; first | exact kT1 | exact kT2 | exact kT3 | exact kT4)))
      refine kR follows_any [.c (.str ka :: [.int .i64 (xa).kind, .bool (xa).b, .int .i64 (xa).n, .str (xa).s, .lst .any 6 (rowsV (xa).l), .lst .any 7 (rowsM (xa).m)]), .c (.str kb :: [.int .i64 (x).kind, .bool (x).b, .int .i64 (x).n, .str (x).s, .lst .any 6 (rowsV (x).l), .lst .any 7 (rowsM (x).m)])] (by rfl) ?_ ?_
      · ((repeat' apply And.intro) <;> first | trivial | omega | (simp only [List.length_nil, List.length_cons]; omega) | (intro hgd; first | (rw [hgd]; rfl) | (refine ⟨?_, by repeat (first | exact trivial | refine ⟨hgd, ?_⟩)⟩; (repeat' apply And.intro) <;> first | trivial | omega | (intro h2; rw [hgd, h2]; rfl) | skip)) | skip)
        · exact rowsM_at (hga (by
            have := hgd
            simp [gd, hra, hrb] at this
            omega))
        · exact rowsM_at (hgb (by
            have := hgd
            simp [gd, hra, hrb] at this
            omega))
      refine AK.cond (by rfl) (fun hb => ?_) (fun hb => ?_)
      · have hcs : k = b.m.length ∨ (i < a.m.length ∧ Op.bytesLess ka.toList kb.toList = true) := Or.imp_left (fun h : (k : Int) = (b.m.length : Nat) => by omega) (by simpa [hra, hrb] using hb)
        have hil : i < a.m.length := by omega
        have hg := hga hil
        have hst2 : mergeO (overN n) (a.m.drop i) (b.m.drop k) = (ka, xa) :: mergeO (overN n) (a.m.drop (i + 1)) (b.m.drop k) := by
          by_cases hkb : k = b.m.length
          · rw [hkb, List.drop_length]; exact mO_end hg
          · rcases hcs with h | h
            · exact absurd h hkb
            · exact mO_lt hg (hgb (by omega)) (cmpS_lt.2 h.2)
        (repeat (first | apply kS | apply kB | apply kL | apply kN | (refine kR follows_any [] (by rfl) ?_ ?_; first | exact kT1 | exact kT2 | exact kT3 | exact kT4)))
        refine kR follows_any [.c (.str ka :: [.int .i64 (xa).kind, .bool (xa).b, .int .i64 (xa).n, .str (xa).s, .lst .any 6 (rowsV (xa).l), .lst .any 7 (rowsM (xa).m)])] (by rfl) ?_ ?_
        · ((repeat' apply And.intro) <;> first | trivial | omega | (simp only [List.length_nil, List.length_cons]; omega) | (intro hgd; first | (rw [hgd]; rfl) | (refine ⟨?_, by repeat (first | exact trivial | refine ⟨hgd, ?_⟩)⟩; (repeat' apply And.intro) <;> first | trivial | omega | (intro h2; rw [hgd, h2]; rfl) | skip)) | skip)
          · exact rowsM_at hg
          all_goals simp only [rowsM_len, List.length_append, List.length_nil, List.length_cons]
          all_goals omega
        (repeat (first | apply kS | apply kB | apply kL | apply kN | (refine kR follows_any [] (by rfl) ?_ ?_; first | exact kT1 | exact kT2 | exact kT3 | exact kT4)))
        refine AK.exit rfl ?_
        (repeat (first | apply kS | apply kB | apply kL | apply kN | (refine kR follows_any [] (by rfl) ?_ ?_; first | exact kT1 | exact kT2 | exact kT3 | exact kT4)))
        refine AK.lp ⟨((i + 1, k), out ++ [(ka, xa)], _), ⟨by dsimp only; omega, by dsimp only; omega, by dsimp only; rw [List.length_append, List.length_singleton]; omega, by dsimp only; rw [← hr, hst2, List.append_assoc]; rfl⟩, Weak.intro ⟨⟨_, rfl, .refl _⟩, ⟨_, rfl, .refl _⟩, ⟨_, rfl, .refl _⟩, ⟨_, rfl, .refl _⟩, ⟨_, rfl, .of_eq (congrArg (AV.int .i64) wi)⟩, ⟨_, rfl, .refl _⟩, trivial⟩ ⟨⟨_, rfl, leL_refl _⟩, ⟨_, rfl, leL_refl _⟩, ⟨_, rfl, leL_refl _⟩, ⟨_, rfl, ⟨.refl _, .refl _, .refl _, .refl _, .refl _, lst_le ?_, trivial⟩⟩, trivial⟩ rfl rfl, by dsimp only; omega⟩
        rw [rowsM_append]; simp only [rowsM, cellsV_eq]; rfl
      have hcs : ¬ k = b.m.length ∧ (i < a.m.length → Op.bytesLess ka.toList kb.toList = false) := And.imp_left (fun h : ¬ (k : Int) = (b.m.length : Nat) => by omega) (by simpa [hra, hrb] using hb)
      have hkl : k < b.m.length := by omega
      have hg := hgb hkl
      have hxs := mem_sizeM (List.mem_of_getElem? hg)
      simp only at hxs
      (repeat (first | apply kS | apply kB | apply kL | apply kN | (refine kR follows_any [] (by rfl) ?_ ?_; first | exact kT1 | exact kT2 | exact kT3 | exact kT4)))
      refine kR follows_any [.c (.str kb :: [.int .i64 (x).kind, .bool (x).b, .int .i64 (x).n, .str (x).s, .lst .any 6 (rowsV (x).l), .lst .any 7 (rowsM (x).m)])] (by rfl) ?_ ?_
      · ((repeat' apply And.intro) <;> first | trivial | omega | (simp only [List.length_nil, List.length_cons]; omega) | (intro hgd; first | (rw [hgd]; rfl) | (refine ⟨?_, by repeat (first | exact trivial | refine ⟨hgd, ?_⟩)⟩; (repeat' apply And.intro) <;> first | trivial | omega | (intro h2; rw [hgd, h2]; rfl) | skip)) | skip)
        · exact rowsM_at hg
      (repeat (first | apply kS | apply kB | apply kL | apply kN | (refine kR follows_any [] (by rfl) ?_ ?_; first | exact kT1 | exact kT2 | exact kT3 | exact kT4)))
      refine kR follows_any [.c (.str kb :: [.int .i64 (x).kind, .bool (x).b, .int .i64 (x).n, .str (x).s, .lst .any 6 (rowsV (x).l), .lst .any 7 (rowsM (x).m)])] (by rfl) ?_ ?_
      · ((repeat' apply And.intro) <;> first | trivial | omega | (simp only [List.length_nil, List.length_cons]; omega) | (intro hgd; first | (rw [hgd]; rfl) | (refine ⟨?_, by repeat (first | exact trivial | refine ⟨hgd, ?_⟩)⟩; (repeat' apply And.intro) <;> first | trivial | omega | (intro h2; rw [hgd, h2]; rfl) | skip)) | skip)
        · exact rowsM_at hg
      (repeat (first | apply kS | apply kB | apply kL | apply kN | (refine kR follows_any [] (by rfl) ?_ ?_; first | exact kT1 | exact kT2 | exact kT3 | exact kT4)))
      refine kR follows_any [.c (.str ka :: [.int .i64 (xa).kind, .bool (xa).b, .int .i64 (xa).n, .str (xa).s, .lst .any 6 (rowsV (xa).l), .lst .any 7 (rowsM (xa).m)])] (by rfl) ?_ ?_
      · ((repeat' apply And.intro) <;> first | trivial | omega | (simp only [List.length_nil, List.length_cons]; omega) | (intro hgd; first | (rw [hgd]; rfl) | (refine ⟨?_, by repeat (first | exact trivial | refine ⟨hgd, ?_⟩)⟩; (repeat' apply And.intro) <;> first | trivial | omega | (intro h2; rw [hgd, h2]; rfl) | skip)) | skip)
        · exact rowsM_at (hga (by simpa [gd, hra] using hgd))
      refine AK.cond (by rfl) (fun hb => ?_) (fun hb => ?_)
      · have hc2 : i < a.m.length ∧ ka = kb := by simpa [hra] using hb
        obtain ⟨hil, e⟩ := hc2
        subst e
        have hg2 := hga hil
        have hxa := mem_sizeM (List.mem_of_getElem? hg2)
        simp only at hxa
        have hst2 := mO_eq (f := overN n) hg2 hg
        (repeat (first | apply kS | apply kB | apply kL | apply kN | (refine kR follows_any [] (by rfl) ?_ ?_; first | exact kT1 | exact kT2 | exact kT3 | exact kT4)))
        refine kR follows_any [.c (.str ka :: [.int .i64 (xa).kind, .bool (xa).b, .int .i64 (xa).n, .str (xa).s, .lst .any 6 (rowsV (xa).l), .lst .any 7 (rowsM (xa).m)])] (by rfl) ?_ ?_
        · ((repeat' apply And.intro) <;> first | trivial | omega | (simp only [List.length_nil, List.length_cons]; omega) | (intro hgd; first | (rw [hgd]; rfl) | (refine ⟨?_, by repeat (first | exact trivial | refine ⟨hgd, ?_⟩)⟩; (repeat' apply And.intro) <;> first | trivial | omega | (intro h2; rw [hgd, h2]; rfl) | skip)) | skip)
          · exact rowsM_at hg2
        (repeat (first | apply kS | apply kB | apply kL | apply kN | (refine kR follows_any [] (by rfl) ?_ ?_; first | exact kT1 | exact kT2 | exact kT3 | exact kT4)))
        refine AK.cond (by rfl) (fun hb => ?_) (fun hb => ?_)
        · have hx0 : ¬ x.kind = 0 := by simpa using hb
          have hin := ih xa x (by omega) (by omega) (by omega)
          rw [if_neg hx0] at hst2
          (repeat (first | apply kS | apply kB | apply kL | apply kN | (refine kR follows_any [] (by rfl) ?_ ?_; first | exact kT1 | exact kT2 | exact kT3 | exact kT4)))
          refine kR follows_any [.v (.agg [.int .i64 ((overN n xa x)).kind, .bool ((overN n xa x)).b, .int .i64 ((overN n xa x)).n, .str ((overN n xa x)).s, .lst .any 6 (rowsV ((overN n xa x)).l), .lst .any 7 (rowsM ((overN n xa x)).m)])] (by rfl) ?_ ?_
          · ((repeat' apply And.intro) <;> first | trivial | omega | (simp only [List.length_nil, List.length_cons]; omega) | (intro hgd; first | (rw [hgd]; rfl) | (refine ⟨?_, by repeat (first | exact trivial | refine ⟨hgd, ?_⟩)⟩; (repeat' apply And.intro) <;> first | trivial | omega | (intro h2; rw [hgd, h2]; rfl) | skip)) | skip)
            all_goals simp only [rowsM_len, List.length_append, List.length_nil, List.length_cons]
            all_goals omega
          (repeat (first | apply kS | apply kB | apply kL | apply kN | (refine kR follows_any [] (by rfl) ?_ ?_; first | exact kT1 | exact kT2 | exact kT3 | exact kT4)))
          refine AK.lp ⟨((i + 1, k + 1), out ++ [(ka, overN n xa x)], _), ⟨by dsimp only; omega, by dsimp only; omega, by dsimp only; rw [List.length_append, List.length_singleton]; omega, by dsimp only; rw [← hr, hst2, List.append_assoc]⟩, Weak.intro ⟨⟨_, rfl, .refl _⟩, ⟨_, rfl, .refl _⟩, ⟨_, rfl, .refl _⟩, ⟨_, rfl, .refl _⟩, ⟨_, rfl, .of_eq (congrArg (AV.int .i64) wi)⟩, ⟨_, rfl, .of_eq (congrArg (AV.int .i64) wk)⟩, trivial⟩ ⟨⟨_, rfl, leL_refl _⟩, ⟨_, rfl, leL_refl _⟩, ⟨_, rfl, leL_refl _⟩, ⟨_, rfl, ⟨.refl _, .refl _, .refl _, .refl _, .refl _, lst_le ?_, trivial⟩⟩, trivial⟩ rfl rfl, by dsimp only; omega⟩
          rw [rowsM_append]; simp only [rowsM, cellsV_eq]; rfl
        · have hx0 : x.kind = 0 := by simpa using hb
          rw [if_pos hx0, List.nil_append] at hst2
          (repeat (first | apply kS | apply kB | apply kL | apply kN | (refine kR follows_any [] (by rfl) ?_ ?_; first | exact kT1 | exact kT2 | exact kT3 | exact kT4)))
          exact AK.lp ⟨((i + 1, k + 1), out, _), ⟨by dsimp only; omega, by dsimp only; omega, by dsimp only; omega, by dsimp only; rw [← hr, hst2]⟩, Weak.intro ⟨⟨_, rfl, .refl _⟩, ⟨_, rfl, .refl _⟩, ⟨_, rfl, .refl _⟩, ⟨_, rfl, .refl _⟩, ⟨_, rfl, .of_eq (congrArg (AV.int .i64) wi)⟩, ⟨_, rfl, .of_eq (congrArg (AV.int .i64) wk)⟩, trivial⟩ ⟨⟨_, rfl, leL_refl _⟩, ⟨_, rfl, leL_refl _⟩, ⟨_, rfl, leL_refl _⟩, ⟨_, rfl, leL_refl _⟩, trivial⟩ rfl rfl, by dsimp only; omega⟩
      · have hc2 : i < a.m.length → ¬ ka = kb := by simpa [hra] using hb
        have hst2 : mergeO (overN n) (a.m.drop i) (b.m.drop k) = (if x.kind = 0 then [] else [(kb, overN n V.null x)]) ++ mergeO (overN n) (a.m.drop i) (b.m.drop (k + 1)) := mO_gt (f := overN n) hg fun p hp => by
          have hil := (List.getElem?_eq_some_iff.1 hp).1
          have := hga hil
          rw [hp] at this
          cases this
          refine ⟨fun h => ?_, hc2 hil⟩
          have h1 := cmpS_lt.1 h
          have h2 := hcs.2 hil
          have h1 : Op.bytesLess ka.toList kb.toList = true := h1
          rw [h2] at h1
          cases h1
        (repeat (first | apply kS | apply kB | apply kL | apply kN | (refine kR follows_any [] (by rfl) ?_ ?_; first | exact kT1 | exact kT2 | exact kT3 | exact kT4)))
        refine AK.cond (by rfl) (fun hb => ?_) (fun hb => ?_)
        · have hx0 : ¬ x.kind = 0 := by simpa using hb
          have hin := ih V.null x (by omega) (by rw [null_size]; omega) (by omega)
          rw [if_neg hx0] at hst2
          (repeat (first | apply kS | apply kB | apply kL | apply kN | (refine kR follows_any [] (by rfl) ?_ ?_; first | exact kT1 | exact kT2 | exact kT3 | exact kT4)))
          refine kR follows_any [.v (.agg [.int .i64 ((overN n V.null x)).kind, .bool ((overN n V.null x)).b, .int .i64 ((overN n V.null x)).n, .str ((overN n V.null x)).s, .lst .any 6 (rowsV ((overN n V.null x)).l), .lst .any 7 (rowsM ((overN n V.null x)).m)])] (by rfl) ?_ ?_
          · ((repeat' apply And.intro) <;> first | trivial | omega | (simp only [List.length_nil, List.length_cons]; omega) | (intro hgd; first | (rw [hgd]; rfl) | (refine ⟨?_, by repeat (first | exact trivial | refine ⟨hgd, ?_⟩)⟩; (repeat' apply And.intro) <;> first | trivial | omega | (intro h2; rw [hgd, h2]; rfl) | skip)) | skip)
            all_goals simp only [rowsM_len, List.length_append, List.length_nil, List.length_cons]
            all_goals omega
          (repeat (first | apply kS | apply kB | apply kL | apply kN | (refine kR follows_any [] (by rfl) ?_ ?_; first | exact kT1 | exact kT2 | exact kT3 | exact kT4)))
          refine AK.lp ⟨((i, k + 1), out ++ [(kb, overN n V.null x)], _), ⟨by dsimp only; omega, by dsimp only; omega, by dsimp only; rw [List.length_append, List.length_singleton]; omega, by dsimp only; rw [← hr, hst2, List.append_assoc]⟩, Weak.intro ⟨⟨_, rfl, .refl _⟩, ⟨_, rfl, .refl _⟩, ⟨_, rfl, .refl _⟩, ⟨_, rfl, .refl _⟩, ⟨_, rfl, .refl _⟩, ⟨_, rfl, .of_eq (congrArg (AV.int .i64) wk)⟩, trivial⟩ ⟨⟨_, rfl, leL_refl _⟩, ⟨_, rfl, leL_refl _⟩, ⟨_, rfl, leL_refl _⟩, ⟨_, rfl, ⟨.refl _, .refl _, .refl _, .refl _, .refl _, lst_le ?_, trivial⟩⟩, trivial⟩ rfl rfl, by dsimp only; omega⟩
          rw [rowsM_append]; simp only [rowsM, cellsV_eq]; rfl
        · have hx0 : x.kind = 0 := by simpa using hb
          rw [if_pos hx0, List.nil_append] at hst2
          (repeat (first | apply kS | apply kB | apply kL | apply kN | (refine kR follows_any [] (by rfl) ?_ ?_; first | exact kT1 | exact kT2 | exact kT3 | exact kT4)))
          exact AK.lp ⟨((i, k + 1), out, _), ⟨by dsimp only; omega, by dsimp only; omega, by dsimp only; omega, by dsimp only; rw [← hr, hst2]⟩, Weak.intro ⟨⟨_, rfl, .refl _⟩, ⟨_, rfl, .refl _⟩, ⟨_, rfl, .refl _⟩, ⟨_, rfl, .refl _⟩, ⟨_, rfl, .refl _⟩, ⟨_, rfl, .of_eq (congrArg (AV.int .i64) wk)⟩, trivial⟩ ⟨⟨_, rfl, leL_refl _⟩, ⟨_, rfl, leL_refl _⟩, ⟨_, rfl, leL_refl _⟩, ⟨_, rfl, leL_refl _⟩, trivial⟩ rfl rfl, by dsimp only; omega⟩
    · have hlt : ¬ (i < a.m.length ∨ k < b.m.length) := by simpa [rowsM_len] using hb
      have e1 : i = a.m.length := by omega
      have e2 : k = b.m.length := by omega
      subst e1 e2
      rw [List.drop_length, List.drop_length, mergeO, List.append_nil] at hr
      refine AK.exit rfl ?_
      (repeat (first | apply kS | apply kB | apply kL | apply kN | (refine kR follows_any [] (by rfl) ?_ ?_; first | exact kT1 | exact kT2 | exact kT3 | exact kT4)))
      refine AK.ret ⟨_, rfl, ?_⟩
      rw [hst, ← hr]
      rfl
end Go.Proofs.YtfnpjakekeojoaaGreatDoor
/-
  A set in quotes or not: the document's function, walked; where a text is cut.
-/
namespace Go.Proofs.YtfnpjakekeojoaaGreatDoor
set_option linter.unusedSimpArgs false
set_option linter.unusedVariables false
open Go.RowKit

/-- no byte before the place is the one -/
def noTo (s : ByteArray) (c : UInt8) (k : Nat) : Prop := ∀ (j : Nat) (h : j < s.size), j < k → s[j] ≠ c
theorem noTo_succ {s : ByteArray} {c : UInt8} {k : Nat} (h : noTo s c k) (hk : k < s.size) (hc : s[k] ≠ c) : noTo s c (k + 1) := fun j hj hjk => by
  by_cases e : j = k
  · subst e; exact hc
  · exact h j hj (by omega)
theorem noTo_take {s : ByteArray} {c : UInt8} {k : Nat} (h : noTo s c k) : c ∉ s.data.toList.take k := fun hm => by
  obtain ⟨j, hj⟩ := List.getElem?_of_mem hm
  have hl := (List.getElem?_eq_some_iff.1 hj).1
  rw [List.length_take] at hl
  have hs : j < s.size := by have : s.data.toList.length = s.size := rfl
                             omega
  rw [List.getElem?_take, if_pos (by omega)] at hj
  have e : s.data.toList[j]? = some s[j] := List.getElem?_eq_getElem (l := s.data.toList) hs
  rw [e] at hj
  exact h j hs (by omega) (Option.some.inj hj)
theorem cut_at {s : ByteArray} {c : UInt8} {k : Nat} (h : noTo s c k) (hk : k < s.size) (hc : s[k] = c) : cutB s c = (s.extract 0 k, s.extract (k + 1) s.size, true) := by
  have hl : s.data.toList = s.data.toList.take k ++ c :: s.data.toList.drop (k + 1) := by
    conv => lhs; rw [← List.take_append_drop k s.data.toList, byte_drop hk, hc]
  have hi : Lib.indexByte s.data.toList c = (k : Nat) := by
    have := ix_append (r := s.data.toList.drop (k + 1)) (noTo_take h)
    rw [← hl, List.length_take] at this
    have z : s.data.toList.length = s.size := rfl
    rw [this, Nat.min_eq_left (by omega)]
  rw [cutB, hi, if_neg (by omega)]
  rfl
theorem cut_no {s : ByteArray} {c : UInt8} (h : noTo s c s.size) : cutB s c = (s, ⟨#[]⟩, false) := by
  have hn := noTo_take h
  rw [List.take_of_length_le (show s.data.toList.length ≤ s.size from Nat.le_refl _)] at hn
  rw [cutB, if_pos (ix_none hn)]
/-- does a quote begin what a set sets? -/
def quotP (s : ByteArray) : Bool := hasB (cutB s 61).2.1 ⟨#[34]⟩ || hasB (cutB s 61).2.1 ⟨#[39]⟩
theorem hasB_ext {s : ByteArray} {k : Nat} (hk : k < s.size) (d : UInt8) : hasB (s.extract k s.size) ⟨#[d]⟩ = decide (s[k] = d) := by
  rw [hasB_head (c := s[k]) (l := s.data.toList.drop (k + 1))]
  rw [ext_end]
  exact byte_drop hk
theorem hasB_nil (d : UInt8) : hasB ⟨#[]⟩ ⟨#[d]⟩ = false := rfl
theorem byte_is {c d : UInt8} (h : ((c.toNat : Nat) : Int) = (d.toNat : Nat)) : c = d := UInt8.toNat_inj.1 (by omega)
theorem refQuoted_a (s : ByteArray) (hs : s.size ≤ 140737488355328) : AC Tryz.prog 9 [.str s] (.bool (quotP s)) := by
  refine AC.enter Tryz.func9 a_ref11_Quoted_ok a_ref11_Quoted_cb (by rfl) fun E hE => ?_
  show AK _ _ _ [.c b_ref11_Quoted] _ _
  rw [b_ref11_Quoted]
  (repeat (first | apply kS | apply kB | apply kL | apply kN | (refine kR follows_any [] (by rfl) ?_ ?_; first | exact kT1 | exact kT2 | exact kT3 | exact kT4)))
  refine AK.loopI (fun k : Nat => (frOf [(0, .str s), (3, .int .i64 k)], ⟨boxOf [], fun _ => 0⟩)) (fun k => k ≤ s.size ∧ noTo s 61 k) (fun k => s.size - k) 0 ⟨by omega, fun j _ h => by omega⟩ (Weak.intro ⟨⟨_, rfl, .refl _⟩, ⟨_, rfl, .refl _⟩, trivial⟩ trivial rfl rfl) fun k ⟨hk, hno⟩ => ?_
  have w1 : IntKind.i64.wrap ((k : Int) + 1) = ((k + 1 : Nat) : Int) := by rw [wrap_in (by omega) (by omega)]; omega
  (repeat (first | apply kS | apply kB | apply kL | apply kN | (refine kR follows_any [] (by rfl) ?_ ?_; first | exact kT1 | exact kT2 | exact kT3 | exact kT4)))
  rw [w1]
  refine AK.cond (by rfl) (fun hb => ?_) (fun hb => ?_)
  · have hlt : k + 1 < s.size := by
      have : ((k + 1 : Nat) : Int) < s.size := by simpa using hb
      omega
    have hk0 : k < s.size := by omega
    (repeat (first | apply kS | apply kB | apply kL | apply kN | (refine kR follows_any [] (by rfl) ?_ ?_; first | exact kT1 | exact kT2 | exact kT3 | exact kT4)))
    refine kR follows_any [] (by rfl) ?_ ?_
    · ((repeat' apply And.intro) <;> first | trivial | omega | (simp only [List.length_nil, List.length_cons]; omega) | (intro hgd; first | (rw [hgd]; rfl) | (refine ⟨?_, by repeat (first | exact trivial | refine ⟨hgd, ?_⟩)⟩; (repeat' apply And.intro) <;> first | trivial | omega | (intro h2; rw [hgd, h2]; rfl) | skip)) | skip)
    rw [show s.data.getD (k : Int).toNat 0 = s[k] from byte_at hk0]
    refine AK.cond (by rfl) (fun hb => ?_) (fun hb => ?_)
    · have hc : s[k] = 61 := byte_is (by simpa using hb)
      have hq : quotP s = (decide (s[k + 1] = 34) || decide (s[k + 1] = 39)) := by
        rw [quotP, cut_at hno hk0 hc, hasB_ext hlt, hasB_ext hlt]
      (repeat (first | apply kS | apply kB | apply kL | apply kN | (refine kR follows_any [] (by rfl) ?_ ?_; first | exact kT1 | exact kT2 | exact kT3 | exact kT4)))
      refine kR follows_any [] (by rfl) ?_ ?_
      · ((repeat' apply And.intro) <;> first | trivial | omega | (simp only [List.length_nil, List.length_cons]; omega) | (intro hgd; first | (rw [hgd]; rfl) | (refine ⟨?_, by repeat (first | exact trivial | refine ⟨hgd, ?_⟩)⟩; (repeat' apply And.intro) <;> first | trivial | omega | (intro h2; rw [hgd, h2]; rfl) | skip)) | skip)
      rw [w1]
      (repeat (first | apply kS | apply kB | apply kL | apply kN | (refine kR follows_any [] (by rfl) ?_ ?_; first | exact kT1 | exact kT2 | exact kT3 | exact kT4)))
      refine AK.ret ⟨_, rfl, ?_⟩
      rw [hq, show s.data.getD ((k + 1 : Nat) : Int).toNat 0 = s[k + 1] from byte_at hlt]
      have key : ∀ d : UInt8, decide (((s[k + 1].toNat : Nat) : Int) = (d.toNat : Nat)) = decide (s[k + 1] = d) := fun d => by
        by_cases h : s[k + 1] = d
        · rw [h, decide_eq_true rfl, decide_eq_true rfl]
        · rw [decide_eq_false h, decide_eq_false fun e => h (byte_is e)]
      exact congrArg AV.bool (congr (congrArg or (key 34)) (key 39))
    · have hc : s[k] ≠ 61 := fun e => by
        rw [e] at hb
        cases hb
      (repeat (first | apply kS | apply kB | apply kL | apply kN | (refine kR follows_any [] (by rfl) ?_ ?_; first | exact kT1 | exact kT2 | exact kT3 | exact kT4)))
      exact AK.lp ⟨k + 1, ⟨by omega, noTo_succ hno hk0 hc⟩, Weak.intro ⟨⟨_, rfl, .refl _⟩, ⟨_, rfl, .of_eq (congrArg (AV.int .i64) w1)⟩, trivial⟩ trivial rfl rfl, by omega⟩
  · have hlt : ¬ k + 1 < s.size := by
      have : ¬ ((k + 1 : Nat) : Int) < s.size := by simpa using hb
      omega
    have hq : quotP s = false := by
      by_cases he : ∃ h : k < s.size, s[k] = 61
      · obtain ⟨h1, h2⟩ := he
        rw [quotP, cut_at hno h1 h2, show k + 1 = s.size by omega]
        have hx : s.extract s.size s.size = ⟨#[]⟩ := by rw [ext_end, byte_drop_end]
        rw [hx]
        rfl
      · have hall : noTo s 61 s.size := fun j hj _ e => by
          by_cases h : j < k
          · exact hno j hj h e
          · have : j = k := by omega
            subst this
            exact he ⟨hj, e⟩
        rw [quotP, cut_no hall]
        rfl
    refine AK.exit rfl ?_
    (repeat (first | apply kS | apply kB | apply kL | apply kN | (refine kR follows_any [] (by rfl) ?_ ?_; first | exact kT1 | exact kT2 | exact kT3 | exact kT4)))
    refine AK.ret ⟨_, rfl, ?_⟩
    rw [hq]
    rfl
end Go.Proofs.YtfnpjakekeojoaaGreatDoor
/-
  The document's Put at a path, walked; what it makes of an empty map.
-/
namespace Go.Proofs.YtfnpjakekeojoaaGreatDoor
set_option linter.unusedSimpArgs false
set_option linter.unusedVariables false
open Go.RowKit

def V.put (x : V) : Path → V → V
  | [], _ => x
  | s :: l, v => vMap (rput s (V.put x l ((mfind s v.m).getD V.null)) (if v.kind = 5 then v.m else []))
theorem put_nest (x : V) : ∀ (l : List ByteArray) (v : V), v.m = [] → V.put x l v = nest x l
  | [], _, _ => rfl
  | s :: l, v, h => by
    rw [V.put, nest, h]
    have : (if v.kind = 5 then ([] : List (ByteArray × V)) else []) = [] := by split <;> rfl
    rw [this]
    show vMap [(s, V.put x l V.null)] = _
    rw [put_nest x l V.null rfl]
theorem get_any (v : V) (s : ByteArray) (hsz : v.size ≤ 1000000) : ∃ (u : V) (f : Bool), AC Tryz.prog 35 [.agg [.int .i64 (v).kind, .bool (v).b, .int .i64 (v).n, .str (v).s, .lst .any 6 (rowsV (v).l), .lst .any 7 (rowsM (v).m)], .str s] (.tup [.agg [.int .i64 (u).kind, .bool (u).b, .int .i64 (u).n, .str (u).s, .lst .any 6 (rowsV (u).l), .lst .any 7 (rowsM (u).m)], .bool f]) ∧ u = (mfind s v.m).getD V.null ∧ u.size ≤ 1000000 ∧ f = (mfind s v.m).isSome := by
  have h := refGet_a v s (by omega)
  cases hf : mfind s v.m with
  | none => rw [hf] at h; exact ⟨V.null, false, h, rfl, by simp [V.null, V.size, sizeL, sizeM], rfl⟩
  | some i =>
    rw [hf] at h
    have := mfind_size hf
    have := v.size_eq
    exact ⟨i, true, h, rfl, by omega, rfl⟩
theorem rowsP_at0 (s : ByteArray) (l : Path) : (rowsP (s :: l))[0]? = some [.str s] := rfl
theorem refPuts_a (x : V) : ∀ (p : Path) (v : V), v.size ≤ 1000000 → p.length ≤ 1000000 → AC Tryz.prog 15 [.agg [.int .i64 (v).kind, .bool (v).b, .int .i64 (v).n, .str (v).s, .lst .any 6 (rowsV (v).l), .lst .any 7 (rowsM (v).m)], .agg [.int .i64 (x).kind, .bool (x).b, .int .i64 (x).n, .str (x).s, .lst .any 6 (rowsV (x).l), .lst .any 7 (rowsM (x).m)], .lst .any 1 (rowsP p)] (.agg [.int .i64 (V.put x p v).kind, .bool (V.put x p v).b, .int .i64 (V.put x p v).n, .str (V.put x p v).s, .lst .any 6 (rowsV (V.put x p v).l), .lst .any 7 (rowsM (V.put x p v).m)]) := by
  intro p
  induction p with
  | nil =>
    intro v hsz hp
    refine AC.enter Tryz.func15 a_ref02_Put_ok a_ref02_Put_cb (by rfl) fun E hE => ?_
    show AK _ _ _ [.c b_ref02_Put] _ _
    rw [b_ref02_Put]
    (repeat (first | apply kS | apply kB | apply kL | apply kN | (refine kR follows_any [] (by rfl) ?_ ?_; first | exact kT1 | exact kT2 | exact kT3 | exact kT4)))
    refine AK.cond (by rfl) (fun hb => ?_) (fun hb => ?_)
    · (repeat (first | apply kS | apply kB | apply kL | apply kN | (refine kR follows_any [] (by rfl) ?_ ?_; first | exact kT1 | exact kT2 | exact kT3 | exact kT4)))
      refine AK.ret ⟨_, rfl, ?_⟩
      rfl
    · simp [rowsP] at hb <;> omega
  | cons s l ih =>
    intro v hsz hp
    obtain ⟨u, f, hget, hu, hus, _⟩ := get_any v s hsz
    have hpl : (rowsP (s :: l)).length = l.length + 1 := by simp [rowsP]
    have hl : l.length ≤ 1000000 := by simp at hp; omega
    refine AC.enter Tryz.func15 a_ref02_Put_ok a_ref02_Put_cb (by rfl) fun E hE => ?_
    show AK _ _ _ [.c b_ref02_Put] _ _
    rw [b_ref02_Put]
    (repeat (first | apply kS | apply kB | apply kL | apply kN | (refine kR follows_any [] (by rfl) ?_ ?_; first | exact kT1 | exact kT2 | exact kT3 | exact kT4)))
    refine AK.cond (by rfl) (fun hb => ?_) (fun hb => ?_)
    · simp [rowsP] at hb <;> omega
    (repeat (first | apply kS | apply kB | apply kL | apply kN | (refine kR follows_any [] (by rfl) ?_ ?_; first | exact kT1 | exact kT2 | exact kT3 | exact kT4)))
    refine kR follows_any [.c [.str s], .v (.tup [.agg [.int .i64 (u).kind, .bool (u).b, .int .i64 (u).n, .str (u).s, .lst .any 6 (rowsV (u).l), .lst .any 7 (rowsM (u).m)], .bool f])] (by rfl) ?_ ?_
    · ((repeat' apply And.intro) <;> first | trivial | omega | (simp only [List.length_nil, List.length_cons]; omega) | (intro hgd; first | (rw [hgd]; rfl) | (refine ⟨?_, by repeat (first | exact trivial | refine ⟨hgd, ?_⟩)⟩; (repeat' apply And.intro) <;> first | trivial | omega | (intro h2; rw [hgd, h2]; rfl) | skip)) | skip)
    (repeat (first | apply kS | apply kB | apply kL | apply kN | (refine kR follows_any [] (by rfl) ?_ ?_; first | exact kT1 | exact kT2 | exact kT3 | exact kT4)))
    refine AK.cond (by rfl) (fun hb => ?_) (fun hb => ?_)
    · have hk : v.kind ≠ 5 := by simpa using hb
      (repeat (first | apply kS | apply kB | apply kL | apply kN | (refine kR follows_any [] (by rfl) ?_ ?_; first | exact kT1 | exact kT2 | exact kT3 | exact kT4)))
      refine kR follows_any [.c [.str s], .v (.agg [.int .i64 (V.put x l u).kind, .bool (V.put x l u).b, .int .i64 (V.put x l u).n, .str (V.put x l u).s, .lst .any 6 (rowsV (V.put x l u).l), .lst .any 7 (rowsM (V.put x l u).m)]), .v (.agg [.int .i64 (V.put x (s :: l) v).kind, .bool (V.put x (s :: l) v).b, .int .i64 (V.put x (s :: l) v).n, .str (V.put x (s :: l) v).s, .lst .any 6 (rowsV (V.put x (s :: l) v).l), .lst .any 7 (rowsM (V.put x (s :: l) v).m)])] (by rfl) ?_ ?_
      · ((repeat' apply And.intro) <;> first | trivial | omega | (simp only [List.length_nil, List.length_cons]; omega) | (intro hgd; first | (rw [hgd]; rfl) | (refine ⟨?_, by repeat (first | exact trivial | refine ⟨hgd, ?_⟩)⟩; (repeat' apply And.intro) <;> first | trivial | omega | (intro h2; rw [hgd, h2]; rfl) | skip)) | skip)
        · rw [show List.drop (Int.toNat 1) (List.take ((rowsP (s :: l)).length : Int).toNat (rowsP (s :: l))) = rowsP l from rowsP_tail s l _ (by simp)]; exact ih u hus hl
        · have := refPut_a (vMap []) (V.put x l u) s (by simp [vMap, V.size, sizeL, sizeM])
          rw [V.put, if_neg hk, ← hu]
          exact this
      (repeat (first | apply kS | apply kB | apply kL | apply kN | (refine kR follows_any [] (by rfl) ?_ ?_; first | exact kT1 | exact kT2 | exact kT3 | exact kT4)))
      refine AK.ret ⟨_, rfl, ?_⟩
      rfl
    · have hk : v.kind = 5 := by simpa using hb
      (repeat (first | apply kS | apply kB | apply kL | apply kN | (refine kR follows_any [] (by rfl) ?_ ?_; first | exact kT1 | exact kT2 | exact kT3 | exact kT4)))
      refine kR follows_any [.c [.str s], .v (.agg [.int .i64 (V.put x l u).kind, .bool (V.put x l u).b, .int .i64 (V.put x l u).n, .str (V.put x l u).s, .lst .any 6 (rowsV (V.put x l u).l), .lst .any 7 (rowsM (V.put x l u).m)]), .v (.agg [.int .i64 (V.put x (s :: l) v).kind, .bool (V.put x (s :: l) v).b, .int .i64 (V.put x (s :: l) v).n, .str (V.put x (s :: l) v).s, .lst .any 6 (rowsV (V.put x (s :: l) v).l), .lst .any 7 (rowsM (V.put x (s :: l) v).m)])] (by rfl) ?_ ?_
      · ((repeat' apply And.intro) <;> first | trivial | omega | (simp only [List.length_nil, List.length_cons]; omega) | (intro hgd; first | (rw [hgd]; rfl) | (refine ⟨?_, by repeat (first | exact trivial | refine ⟨hgd, ?_⟩)⟩; (repeat' apply And.intro) <;> first | trivial | omega | (intro h2; rw [hgd, h2]; rfl) | skip)) | skip)
        · rw [show List.drop (Int.toNat 1) (List.take ((rowsP (s :: l)).length : Int).toNat (rowsP (s :: l))) = rowsP l from rowsP_tail s l _ (by simp)]; exact ih u hus hl
        · have := refPut_a v (V.put x l u) s hsz
          rw [V.put, if_pos hk, ← hu]
          exact this
      (repeat (first | apply kS | apply kB | apply kL | apply kN | (refine kR follows_any [] (by rfl) ?_ ?_; first | exact kT1 | exact kT2 | exact kT3 | exact kT4)))
      refine AK.ret ⟨_, rfl, ?_⟩
      rfl
end Go.Proofs.YtfnpjakekeojoaaGreatDoor
/-
  The document's Set, walked (the parting of a path is proved in its own text).
-/
namespace Go.Proofs.YtfnpjakekeojoaaGreatDoor
set_option linter.unusedSimpArgs false
set_option linter.unusedVariables false
open Go.RowKit

/-- the document parts a path as the program does (proved in its own text) -/
def RefPathOk : Prop := ∀ s : ByteArray, s.size ≤ 1000 → AC Tryz.prog 33 [.str s] (.tup [.lst .any 1 (rowsP (pathP s).1), .int .i64 (pathP s).2])
theorem word_plain {w : ByteArray} (h1 : hasB w ⟨#[34]⟩ = false) (h2 : hasB w ⟨#[39]⟩ = false) : wordP w = scalP w := by
  rw [wordP, h1, h2, if_neg (by decide)]
theorem refSet_a (hRP : RefPathOk) (v : V) (s : ByteArray) (ho : v.ord) (ht : v.tx) (hv : v.size ≤ 1000000) (hs : s.size ≤ 1000) (hq : quotP s = false) : AC Tryz.prog 11 [.agg [.int .i64 (v).kind, .bool (v).b, .int .i64 (v).n, .str (v).s, .lst .any 6 (rowsV (v).l), .lst .any 7 (rowsM (v).m)], .str s] (.tup [.agg [.int .i64 ((setP v s).1).kind, .bool ((setP v s).1).b, .int .i64 ((setP v s).1).n, .str ((setP v s).1).s, .lst .any 6 (rowsV ((setP v s).1).l), .lst .any 7 (rowsM ((setP v s).1).m)], .int .i64 (setP v s).2]) := by
  refine AC.enter Tryz.func11 a_ref11_Set_ok a_ref11_Set_cb (by rfl) fun E hE => ?_
  show AK _ _ _ [.c b_ref11_Set] _ _
  rw [b_ref11_Set]
  (repeat (first | apply kS | apply kB | apply kL | apply kN | (refine kR follows_any [] (by rfl) ?_ ?_; first | exact kT1 | exact kT2 | exact kT3 | exact kT4)))
  refine AK.loopI (fun k : Nat => (frOf [(1, .str s), (2, .ptr 2 0), (4, .ptr 4 0), (6, .int .i64 k)], ⟨boxOf [(2, [.int .i64 (v).kind, .bool (v).b, .int .i64 (v).n, .str (v).s, .lst .any 6 (rowsV (v).l), .lst .any 7 (rowsM (v).m)], false), (4, [.int .i64 0, .bool false, .int .i64 0, .str ⟨#[]⟩, .lst .nil 6 [], .lst .nil 7 []], false)], fun _ => 0⟩)) (fun k => k ≤ s.size ∧ noTo s 61 k) (fun k => s.size - k) 0 ⟨by omega, fun j _ h => by omega⟩ (Weak.intro ⟨⟨_, rfl, .refl _⟩, ⟨_, rfl, .refl _⟩, ⟨_, rfl, .refl _⟩, ⟨_, rfl, .refl _⟩, trivial⟩ ⟨⟨_, rfl, leL_refl _⟩, ⟨_, rfl, leL_refl _⟩, trivial⟩ rfl rfl) fun k ⟨hk, hno⟩ => ?_
  (repeat (first | apply kS | apply kB | apply kL | apply kN | (refine kR follows_any [] (by rfl) ?_ ?_; first | exact kT1 | exact kT2 | exact kT3 | exact kT4)))
  refine kR follows_any [] (by rfl) ?_ ?_
  · ((repeat' apply And.intro) <;> first | trivial | omega | (simp only [List.length_nil, List.length_cons]; omega) | (intro hgd; first | (rw [hgd]; rfl) | (refine ⟨?_, by repeat (first | exact trivial | refine ⟨hgd, ?_⟩)⟩; (repeat' apply And.intro) <;> first | trivial | omega | (intro h2; rw [hgd, h2]; rfl) | skip)) | skip)
    have hlt : k < s.size := by
      have := hgd
      simp only [gd] at this
      simpa using this
    omega
  have hby : k < s.size → s.data.getD (k : Int).toNat 0 = s.data.getD k 0 := fun _ => rfl
  refine AK.cond (by rfl) (fun hb => ?_) (fun hb => ?_)
  · have hlt : k < s.size := by
      simp only [Bool.and_eq_true, decide_eq_true_eq] at hb
      omega
    have hc : s[k] ≠ 61 := fun e => by
      rw [show s.data.getD (k : Int).toNat 0 = s[k] from byte_at hlt, e] at hb
      simp at hb
    (repeat (first | apply kS | apply kB | apply kL | apply kN | (refine kR follows_any [] (by rfl) ?_ ?_; first | exact kT1 | exact kT2 | exact kT3 | exact kT4)))
    exact AK.lp ⟨k + 1, ⟨by omega, noTo_succ hno hlt hc⟩, Weak.intro ⟨⟨_, rfl, .refl _⟩, ⟨_, rfl, .refl _⟩, ⟨_, rfl, .refl _⟩, ⟨_, rfl, .of_eq (congrArg _ (by first | omega | (rw [wrap_in (by omega) (by omega)]; omega)))⟩, trivial⟩ ⟨⟨_, rfl, leL_refl _⟩, ⟨_, rfl, leL_refl _⟩, trivial⟩ rfl rfl, by omega⟩
  have hend : k = s.size ∨ ∃ h : k < s.size, s[k] = 61 := by
    by_cases h : k < s.size
    · refine .inr ⟨h, ?_⟩
      rw [show s.data.getD (k : Int).toNat 0 = s[k] from byte_at h] at hb
      simp [h] at hb
      exact byte_is hb
    · exact .inl (by omega)
  refine AK.exit rfl ?_
  (repeat (first | apply kS | apply kB | apply kL | apply kN | (refine kR follows_any [] (by rfl) ?_ ?_; first | exact kT1 | exact kT2 | exact kT3 | exact kT4)))
  refine AK.cond (by rfl) (fun hb => ?_) (fun hb => ?_)
  · have hks : k = s.size := by
      have : (k : Int) = s.size := by simpa using hb
      omega
    subst hks
    have hcut := cut_no hno
    (repeat (first | apply kS | apply kB | apply kL | apply kN | (refine kR follows_any [] (by rfl) ?_ ?_; first | exact kT1 | exact kT2 | exact kT3 | exact kT4)))
    refine AK.ret ⟨_, rfl, ?_⟩
    rw [setP, hcut, if_pos rfl]
    rfl
  have hks : ¬ k = s.size := by
    have : ¬ (k : Int) = s.size := by simpa using hb
    omega
  obtain ⟨hlt, hc⟩ : ∃ h : k < s.size, s[k] = 61 := by
    rcases hend with h | h
    · exact absurd h hks
    · exact h
  have hcut := cut_at hno hlt hc
  obtain ⟨hz1, hz2⟩ := cutB_size s 61
  have hPa := hRP (cutB s 61).1 (by omega)
  have hsc : wordP (cutB s 61).2.1 = scalP (cutB s 61).2.1 := by
    rw [quotP, Bool.or_eq_false_iff] at hq
    exact word_plain hq.1 hq.2
  have hW := refScal_a (cutB s 61).2.1 (by omega)
  have hL := word_leaf (cutB s 61).2.1 (by omega)
  obtain ⟨hp1, hp2, hp3⟩ := pathP_facts (cutB s 61).1
  have hp4 : ∀ x ∈ (pathP (cutB s 61).1).1, x.size ≤ 140737488355328 := fun x hx => by have := hp2 x hx; omega
  unfold setP
  rw [← hsc] at hW
  rw [hcut] at *
  dsimp only at *
  rw [if_neg (by decide)]
  clear hb
  generalize pathP (s.extract 0 k) = pe at *
  generalize wordP (s.extract (k + 1) s.size) = xe at *
  obtain ⟨l, e⟩ := pe
  obtain ⟨x, e2⟩ := xe
  dsimp only at *
  obtain ⟨hxo, hxt, hxs, hxk⟩ := hL
  have hns := nest_size x l
  have hno2 := nest_ord hxo l
  have hnt := nest_tx hxt l hp4
  have hov := over_facts 100 v (nest x l) (by omega) ho hno2
  have hot := over_tx 100 v (nest x l) (by omega) ho hno2 ht hnt
  have hO := refOver_a 100 v (nest x l) (by omega) (by omega) (by omega)
  have hCk := refCheck_a (overN 100 v (nest x l)) (hot.sb (by omega)) (by omega)
  have hPu := refPuts_a x l (vMap []) (by rw [vMap_size, sizeM]; omega) (by omega)
  rw [put_nest x l (vMap []) rfl, show (.agg [.int .i64 ((vMap [])).kind, .bool ((vMap [])).b, .int .i64 ((vMap [])).n, .str ((vMap [])).s, .lst .any 6 (rowsV ((vMap [])).l), .lst .any 7 (rowsM ((vMap [])).m)] : AV) = .agg [.int .i64 5, .bool false, .int .i64 0, .str ⟨#[]⟩, .lst .any 6 [], .lst .any 7 []] from by simp [vMap, V.kind, V.b, V.n, V.s, V.l, V.m, rowsV, rowsM]] at hPu
  have wk : IntKind.i64.wrap ((k : Int) + 1) = ((k + 1 : Nat) : Int) := by rw [wrap_in (by omega) (by omega)]; omega
  generalize overN 100 v (nest x l) = out at *
  (repeat (first | apply kS | apply kB | apply kL | apply kN | (refine kR follows_any [] (by rfl) ?_ ?_; first | exact kT1 | exact kT2 | exact kT3 | exact kT4)))
  refine kR follows_any [.v (.tup [.lst .any 1 (rowsP l), .int .i64 e])] (by rfl) ?_ ?_
  · ((repeat' apply And.intro) <;> first | trivial | omega | (simp only [List.length_nil, List.length_cons]; omega) | (intro hgd; first | (rw [hgd]; rfl) | (refine ⟨?_, by repeat (first | exact trivial | refine ⟨hgd, ?_⟩)⟩; (repeat' apply And.intro) <;> first | trivial | omega | (intro h2; rw [hgd, h2]; rfl) | skip)) | skip)
  (repeat (first | apply kS | apply kB | apply kL | apply kN | (refine kR follows_any [] (by rfl) ?_ ?_; first | exact kT1 | exact kT2 | exact kT3 | exact kT4)))
  refine AK.cond (by rfl) (fun hb => ?_) (fun hb => ?_)
  · have he : e ≠ 0 := by simpa using hb
    (repeat (first | apply kS | apply kB | apply kL | apply kN | (refine kR follows_any [] (by rfl) ?_ ?_; first | exact kT1 | exact kT2 | exact kT3 | exact kT4)))
    refine AK.ret ⟨_, rfl, ?_⟩
    rw [if_pos he]
    rfl
  have he : e = 0 := by simpa using hb
  subst he
  rw [if_neg (by decide)]
  (repeat (first | apply kS | apply kB | apply kL | apply kN | (refine kR follows_any [] (by rfl) ?_ ?_; first | exact kT1 | exact kT2 | exact kT3 | exact kT4)))
  refine kR follows_any [.v (.tup [.agg [.int .i64 (x).kind, .bool (x).b, .int .i64 (x).n, .str (x).s, .lst .any 6 (rowsV (x).l), .lst .any 7 (rowsM (x).m)], .int .i64 e2])] (by rfl) ?_ ?_
  · ((repeat' apply And.intro) <;> first | trivial | omega | (simp only [List.length_nil, List.length_cons]; omega) | (intro hgd; first | (rw [hgd]; rfl) | (refine ⟨?_, by repeat (first | exact trivial | refine ⟨hgd, ?_⟩)⟩; (repeat' apply And.intro) <;> first | trivial | omega | (intro h2; rw [hgd, h2]; rfl) | skip)) | skip)
    all_goals first | (rw [wk]; omega) | (rw [wk]; exact hW)
  (repeat (first | apply kS | apply kB | apply kL | apply kN | (refine kR follows_any [] (by rfl) ?_ ?_; first | exact kT1 | exact kT2 | exact kT3 | exact kT4)))
  refine AK.cond (by rfl) (fun hb => ?_) (fun hb => ?_)
  · have he : e2 ≠ 0 := by simpa using hb
    (repeat (first | apply kS | apply kB | apply kL | apply kN | (refine kR follows_any [] (by rfl) ?_ ?_; first | exact kT1 | exact kT2 | exact kT3 | exact kT4)))
    refine AK.ret ⟨_, rfl, ?_⟩
    rw [if_pos he]
    rfl
  have he : e2 = 0 := by simpa using hb
  subst he
  rw [if_neg (by decide)]
  (repeat (first | apply kS | apply kB | apply kL | apply kN | (refine kR follows_any [] (by rfl) ?_ ?_; first | exact kT1 | exact kT2 | exact kT3 | exact kT4)))
  refine kR follows_any [.v (.agg [.int .i64 ((nest x l)).kind, .bool ((nest x l)).b, .int .i64 ((nest x l)).n, .str ((nest x l)).s, .lst .any 6 (rowsV ((nest x l)).l), .lst .any 7 (rowsM ((nest x l)).m)]), .v (.agg [.int .i64 (out).kind, .bool (out).b, .int .i64 (out).n, .str (out).s, .lst .any 6 (rowsV (out).l), .lst .any 7 (rowsM (out).m)])] (by rfl) ?_ ?_
  · (repeat' apply And.intro) <;> first | exact hPu | exact hO | trivial
  (repeat (first | apply kS | apply kB | apply kL | apply kN | (refine kR follows_any [] (by rfl) ?_ ?_; first | exact kT1 | exact kT2 | exact kT3 | exact kT4)))
  refine kR follows_any [.v (.int .i64 out.checkC)] (by rfl) ?_ ?_
  · ((repeat' apply And.intro) <;> first | trivial | omega | (simp only [List.length_nil, List.length_cons]; omega) | (intro hgd; first | (rw [hgd]; rfl) | (refine ⟨?_, by repeat (first | exact trivial | refine ⟨hgd, ?_⟩)⟩; (repeat' apply And.intro) <;> first | trivial | omega | (intro h2; rw [hgd, h2]; rfl) | skip)) | skip)
  (repeat (first | apply kS | apply kB | apply kL | apply kN | (refine kR follows_any [] (by rfl) ?_ ?_; first | exact kT1 | exact kT2 | exact kT3 | exact kT4)))
  refine AK.cond (by rfl) (fun hb => ?_) (fun hb => ?_)
  · have he : out.checkC ≠ 0 := by simpa using hb
    (repeat (first | apply kS | apply kB | apply kL | apply kN | (refine kR follows_any [] (by rfl) ?_ ?_; first | exact kT1 | exact kT2 | exact kT3 | exact kT4)))
    refine AK.ret ⟨_, rfl, ?_⟩
    rw [if_pos he]
    rfl
  · have he : out.checkC = 0 := by simpa using hb
    (repeat (first | apply kS | apply kB | apply kL | apply kN | (refine kR follows_any [] (by rfl) ?_ ?_; first | exact kT1 | exact kT2 | exact kT3 | exact kT4)))
    refine AK.ret ⟨_, rfl, ?_⟩
    rw [if_neg (by omega)]
    rfl
end Go.Proofs.YtfnpjakekeojoaaGreatDoor
/-
  A path parted byte by byte: plain laws; a row of texts of the call's own.
-/
namespace Go.Proofs.YtfnpjakekeojoaaGreatDoor
set_option linter.unusedSimpArgs false
set_option linter.unusedVariables false
open Go.RowKit

def noDot (t : ByteArray) : Prop := (46 : UInt8) ∉ t.data.toList
theorem split_join2 : ∀ (l : List ByteArray) (s : ByteArray), l ≠ [] → (∀ t ∈ l, noDot t) → s.data.toList = joinL l → Lib.countB s ⟨#[46]⟩ + 1 = l.length ∧ Lib.splitB ⟨#[46]⟩ 0 (l.length - 1) s = l
  | [], _, h, _, _ => absurd rfl h
  | [t], s, _, hw, hs => by
    have e : s = t := ba_ext (by rw [hs]; simp [joinL])
    subst e
    have hi : Lib.indexB s ⟨#[46]⟩ = -1 := by
      show Lib.index s.data.toList [46] = -1
      rw [Lib.index_one, ix_none (hw s (by simp))]
    exact ⟨by rw [Lib.countB_miss _ _ hi]; rfl, rfl⟩
  | t :: u :: l, s, _, hw, hs => by
    rw [join_cons] at hs
    have ht : (46 : UInt8) ∉ t.data.toList := hw t (by simp)
    have hz : t.data.toList.length = t.size := rfl
    have hi : Lib.indexB s ⟨#[46]⟩ = (t.size : Nat) := by
      show Lib.index s.data.toList [46] = _
      rw [Lib.index_one, hs, ix_append ht, hz]
    have hx : (s.extract (t.size + (ByteArray.mk #[46]).size) s.size).data.toList = joinL (u :: l) := by
      rw [ext_end]
      show s.data.toList.drop (t.size + 1) = _
      have e : t.data.toList ++ 46 :: joinL (u :: l) = (t.data.toList ++ [46]) ++ joinL (u :: l) := by simp
      rw [hs, e, List.drop_append_of_le_length (by simp [hz]), List.drop_of_length_le (by simp [hz])]
      rfl
    have h0 : s.extract 0 (t.size + 0) = t := by
      refine ba_ext ?_
      rw [Lib.extract_eq]
      show ((s.data.toList.drop 0).take _) = _
      rw [hs]
      simp [hz]
    obtain ⟨c1, c2⟩ := split_join2 (u :: l) (s.extract (t.size + (ByteArray.mk #[46]).size) s.size) (by simp) (fun x hx => hw x (by simp [List.mem_cons.1 hx])) hx
    refine ⟨?_, ?_⟩
    · rw [Lib.countB_hit _ _ _ (by decide) hi]
      simp only [List.length_cons] at c1 ⊢
      omega
    · simp only [List.length_cons, Nat.add_sub_cancel] at c2 ⊢
      rw [Lib.splitB_hit _ _ _ _ _ hi, h0, c2]
theorem splB_join {l : List ByteArray} {s : ByteArray} (hne : l ≠ []) (hw : ∀ t ∈ l, noDot t) (hs : s.data.toList = joinL l) : splB s = l := by
  obtain ⟨c1, c2⟩ := split_join2 l s hne hw hs
  rw [splB, show Lib.countB s ⟨#[46]⟩ = l.length - 1 by omega, c2]
theorem join_last (f : List ByteArray) (t : ByteArray) (c : UInt8) : joinL (f ++ [t ++ ⟨#[c]⟩]) = joinL (f ++ [t]) ++ [c] := by
  cases f with
  | nil => simp [joinL]
  | cons s f =>
    rw [join_snoc _ _ (by simp), join_snoc _ _ (by simp)]
    simp
/-- the pieces of a text's first bytes -/
def Pcs (s : ByteArray) (k : Nat) (l : List ByteArray) : Prop := l ≠ [] ∧ (∀ t ∈ l, noDot t) ∧ joinL l = s.data.toList.take k
theorem Pcs.zero (s : ByteArray) : Pcs s 0 [⟨#[]⟩] := ⟨by simp, fun t ht => by rw [List.mem_singleton.1 ht]; exact List.not_mem_nil, rfl⟩
theorem byte_take {s : ByteArray} {k : Nat} (h : k < s.size) : s.data.toList.take (k + 1) = s.data.toList.take k ++ [s[k]] := by
  have h2 : k < s.data.toList.length := h
  rw [List.take_succ_eq_append_getElem h2]
  rfl
theorem Pcs.dot {s : ByteArray} {k : Nat} {l : List ByteArray} (h : Pcs s k l) (hk : k < s.size) (hc : s[k] = 46) : Pcs s (k + 1) (l ++ [⟨#[]⟩]) := by
  obtain ⟨h1, h2, h3⟩ := h
  refine ⟨by simp, fun t ht => ?_, ?_⟩
  · rcases List.mem_append.1 ht with ht | ht
    · exact h2 t ht
    · rw [List.mem_singleton.1 ht]; exact List.not_mem_nil
  · rw [join_snoc l _ h1, byte_take hk, hc, h3]
theorem Pcs.byte {s : ByteArray} {k : Nat} {f : List ByteArray} {t : ByteArray} (h : Pcs s k (f ++ [t])) (hk : k < s.size) (hc : s[k] ≠ 46) : Pcs s (k + 1) (f ++ [t ++ ⟨#[s[k]]⟩]) := by
  obtain ⟨_, h2, h3⟩ := h
  refine ⟨by simp, fun u hu => ?_, ?_⟩
  · rcases List.mem_append.1 hu with hu | hu
    · exact h2 u (by simp [hu])
    · rw [List.mem_singleton.1 hu]
      intro hm
      have hm : (46 : UInt8) ∈ t.data.toList ++ [s[k]] := by simpa using hm
      rcases List.mem_append.1 hm with hm | hm
      · exact h2 t (by simp) hm
      · exact hc (List.mem_singleton.1 hm).symm
  · rw [join_last, byte_take hk, h3]
theorem Pcs.all {s : ByteArray} {l : List ByteArray} (h : Pcs s s.size l) : splB s = l := by
  obtain ⟨h1, h2, h3⟩ := h
  rw [List.take_of_length_le (show s.data.toList.length ≤ s.size from Nat.le_refl _)] at h3
  exact splB_join h1 h2 h3.symm
theorem Pcs.len {s : ByteArray} {k : Nat} {l : List ByteArray} (h : Pcs s k l) : l.length ≤ k + 1 := by
  obtain ⟨_, _, h3⟩ := h
  have key : ∀ l : List ByteArray, l.length ≤ (joinL l).length + 1 := by
    intro l
    cases l with
    | nil => simp
    | cons a l =>
      rw [joinL, List.length_append, List.length_cons]
      have : ∀ l : List ByteArray, l.length ≤ (l.flatMap fun t => 46 :: t.data.toList).length := by
        intro l
        induction l with
        | nil => simp
        | cons a l ih => simp only [List.flatMap_cons, List.length_append, List.length_cons]; omega
      have := this l
      omega
  have := key l
  rw [h3, List.length_take] at this
  omega
theorem Pcs.size {s : ByteArray} {k : Nat} {l : List ByteArray} (h : Pcs s k l) {t : ByteArray} (ht : t ∈ l) : t.size ≤ s.size := by
  obtain ⟨_, _, h3⟩ := h
  have key : ∀ l : List ByteArray, t ∈ l → t.size ≤ (joinL l).length := by
    intro l
    cases l with
    | nil => intro h; cases h
    | cons a l =>
      intro h
      rw [joinL, List.length_append]
      have z : ∀ u : ByteArray, u.data.toList.length = u.size := fun _ => rfl
      rcases List.mem_cons.1 h with rfl | h
      · rw [z]; omega
      · have : ∀ l : List ByteArray, t ∈ l → t.size ≤ (l.flatMap fun t => 46 :: t.data.toList).length := by
          intro l
          induction l with
          | nil => intro h; cases h
          | cons b l ih =>
            intro h
            simp only [List.flatMap_cons, List.length_append, List.length_cons, z]
            rcases List.mem_cons.1 h with rfl | h
            · omega
            · have := ih h; omega
        have := this l h
        omega
  have := key l ht
  rw [h3, List.length_take] at this
  have z : s.data.toList.length = s.size := rfl
  omega
theorem ext_byte {s : ByteArray} {k : Nat} (h : k < s.size) : s.extract k (k + 1) = ⟨#[s[k]]⟩ := by
  refine ba_ext ?_
  rw [Lib.extract_eq]
  show ((s.data.toList.drop k).take _) = _
  rw [byte_drop h, Nat.add_sub_cancel_left]
  rfl
end Go.Proofs.YtfnpjakekeojoaaGreatDoor
/-
  The document's parting of a path, walked.
-/
namespace Go.Proofs.YtfnpjakekeojoaaGreatDoor
set_option linter.unusedSimpArgs false
set_option linter.unusedVariables false
open Go.RowKit

theorem info_str : (Tryz.prog.info? 9).map (fun i => (i.zero, i.size, i.bytes)) = some (some (.string ⟨#[]⟩), 1, 16) := by kernel_rfl
/-- a row of texts of the call's own, the first cells read as a list -/
structure SRow (w : World) (base g cap : Nat) (l : List ByteArray) : Prop where
  out : ∃ cur : Array Value, w.heap[g]? = some (.cells cur 9 (0, 0)) ∧ base ≤ g ∧ l.length ≤ cap ∧ cap ≤ maxLen ∧ cur.size = cap ∧ cur.toList.take l.length = l.map Value.string
theorem SRow.cell {w : World} {base g cap : Nat} {l : List ByteArray} (h : SRow w base g cap l) {j : Nat} {x : ByteArray} (hj : l[j]? = some x) : w.cell? ⟨g, 0 + j, none⟩ = some (.string x) ∧ w.frozen? ⟨g, 0 + j, none⟩ = false := by
  obtain ⟨cur, h1, _, _, _, h5, h6⟩ := h.out
  have hlt := (List.getElem?_eq_some_iff.1 hj).1
  rw [Nat.zero_add]
  refine ⟨?_, frozen_of_row w g j cur 9 h1⟩
  rw [cell_of_row w g j cur 9 (0, 0) h1, ← Array.getElem?_toList]
  have e : (cur.toList.take l.length)[j]? = some (.string x) := by rw [h6, List.getElem?_map, hj]; rfl
  rw [List.getElem?_take, if_pos hlt] at e
  exact e
theorem SRow.below {w w' : World} {base g cap B : Nat} {l : List ByteArray} (h : SRow w base g cap l) (hb : Below B w w') (hB : w.heap.size ≤ B) : SRow w' base g cap l := by
  obtain ⟨cur, h1, r⟩ := h.out
  exact ⟨cur, by rw [hb.block g (Nat.lt_of_lt_of_le (Array.getElem?_eq_some_iff.1 h1).1 hB)]; exact h1, r⟩
theorem SRow.lt {w : World} {base g cap : Nat} {l : List ByteArray} (h : SRow w base g cap l) : g < w.heap.size ∧ base ≤ g := by
  obtain ⟨cur, h1, h2, _⟩ := h.out
  exact ⟨(Array.getElem?_eq_some_iff.1 h1).1, h2⟩
theorem SRow.set {w : World} {base g cap : Nat} {f : List ByteArray} {t : ByteArray} (h : SRow w base g cap (f ++ [t])) (u : ByteArray) : SRow (w.setCell ⟨g, f.length, none⟩ (.string u)) base g cap (f ++ [u]) := by
  obtain ⟨cur, h1, h2, h3, h4, h5, h6⟩ := h.out
  simp only [List.length_append, List.length_singleton] at h3 h6
  refine ⟨_, Blk.setCell (show Blk w g 9 cur from h1) f.length (.string u), h2, by simpa using h3, h4, by simpa using h5, ?_⟩
  simp only [List.length_append, List.length_singleton, List.map_append, List.map_cons, List.map_nil]
  rw [Array.toList_setIfInBounds, List.take_set, h6]
  simp
theorem SRow.own {w : World} {base g cap : Nat} {l : List ByteArray} (h : SRow w base g cap l) : Own 9 1 (fun cs x => cs = [.string x]) w base (.slice (some ⟨g, 0, none⟩) l.length cap) l := by
  obtain ⟨cur, h1, h2, h3, h4, h5, h6⟩ := h.out
  refine ⟨l.map Value.string, ⟨by simp, .inr ⟨g, cap, cur, rfl, h2, h1, h3, h4, by omega, by rw [Nat.mul_one]; exact h6⟩⟩, fun i x hi => ?_⟩
  have hlt := (List.getElem?_eq_some_iff.1 hi).1
  have e : (l.map Value.string)[i]? = some (.string x) := by rw [List.getElem?_map, hi]; rfl
  rw [Nat.mul_one, drop_at e]
  rfl
theorem own_srow {w : World} {base : Nat} {v : Value} {l : List ByteArray} (h : Own 9 1 (fun cs x => cs = [.string x]) w base v l) (hne : l ≠ []) : ∃ g cap, v = .slice (some ⟨g, 0, none⟩) l.length cap ∧ SRow w base g cap l := by
  obtain ⟨xs, ⟨hl, hv⟩, hR⟩ := h
  rcases hv with ⟨_, h0⟩ | ⟨g, cap, cur, rfl, h2, h1, h3, h4, h5, h6⟩
  · exact absurd (List.length_eq_zero_iff.1 h0) hne
  refine ⟨g, cap, rfl, cur, h1, h2, h3, h4, by omega, ?_⟩
  rw [Nat.mul_one] at h6 hl
  rw [h6]
  refine List.ext_getElem? fun i => ?_
  by_cases hi : i < l.length
  · have h7 := hR i _ (List.getElem?_eq_getElem hi)
    rw [Nat.mul_one, drop_at (List.getElem?_eq_getElem (show i < xs.length by omega))] at h7
    simp only [List.take_succ_cons, List.take_zero, List.cons.injEq, and_true] at h7
    rw [List.getElem?_map, List.getElem?_eq_getElem hi, List.getElem?_eq_getElem (show i < xs.length by omega), h7]
    rfl
  · rw [List.getElem?_eq_none (by omega), List.getElem?_eq_none (by simp; omega)]
theorem SRow.new {w : World} {base : Nat} (hb : base ≤ w.heap.size) {k : Nat} (hk : w.heap.size = k) (x : ByteArray) : SRow (w.alloc (.cells #[.string x] 9)) base k 1 [x] := by
  refine ⟨#[.string x], Blk.new w 9 #[.string x] hk, by omega, by simp, by unfold maxLen; omega, rfl, rfl⟩
theorem refWord_any (x : ByteArray) (w : World) (hx : x.size ≤ 1000) (hg : GW w) : Calls Tryz.prog 13 #[.string x] w fun e w' => e = .returned (.bool (wdB x)) ∧ Below w.heap.size w w' := by
  refine ((refWord_a x (by omega)).run (fun _ _ => none) w [.string x] (fun _ _ _ h => by cases h) ⟨rfl, fun j v a hv ha => ?_⟩ hg).mono ?_
  · rcases j with _ | j <;> simp at hv ha
    subst hv ha
    exact Rel1.str x
  · rintro e w' ⟨σ', v, rfl, _, _, hb, hr⟩
    have hr : Rel1 σ' v (.bool (wdB x)) := hr
    cases hr
    exact ⟨rfl, hb⟩
set_option maxHeartbeats 2000000 in
theorem refPath_any (s : ByteArray) (w : World) (hs : s.size ≤ 1000) (hg : GW w) :
    Calls Tryz.prog 33 #[.string s] w fun e w' =>
      (((pathP s).1 = [] ∧ e = .returned (.tuple #[.slice none 0 0, .int .i64 (pathP s).2])) ∨ ∃ g cap, e = .returned (.tuple #[.slice (some ⟨g, 0, none⟩) (pathP s).1.length cap, .int .i64 (pathP s).2]) ∧ SRow w' w.heap.size g cap (pathP s).1) ∧ Below w.heap.size w w' := by
  go_enter Tryz.func33, Tryz.ntmps33
  go_wp2
  go_loopw [4, 5] (fun v i wr => ∃ (k : Nat) (f : List ByteArray) (t : ByteArray) (g cap : Nat), k ≤ s.size ∧ i = .int .i64 k ∧ v = .slice (some ⟨g, 0, none⟩) ((f ++ [t]).length : Nat) cap ∧ Hid (SRow wr w.heap.size g cap (f ++ [t])) ∧ Hid (Pcs s k (f ++ [t])) ∧ Hid (Below w.heap.size w wr)) (fun _ i _ => s.size - (intOf i).toNat)
  case atStart => exact ⟨0, [], ⟨#[]⟩, w.heap.size, 1, by omega, rfl, rfl, Lib.hid (SRow.new (Nat.le_refl _) rfl _), Lib.hid (Pcs.zero s), Lib.hid ((Below.refl _ _).alloc (Nat.le_refl _) _)⟩
  case round =>
    obtain ⟨k, f, t, g, cap, hk, rfl, rfl, hrow, hpc, hB⟩ := hrel
    have hB1 := hB.out.size
    have hpl := hpc.out.len
    by_cases hlt : k < s.size
    · by_cases hc : s[k] = 46
      · have HC := Lib.hid hc
        have t1 : ((s[k].toNat : Int) == 46) = true := by rw [hc]; rfl
        have HP := Lib.hid (hpc.out.dot hlt hc)
        clear hc
        go_wp2_with (at_builtin; go_must (refine wpList_append1 (R := fun cs x => cs = [.string x]) 18 19 26 9 (.string ⟨#[]⟩) 1 16 w.heap.size _ (f ++ [t]) ⟨#[]⟩ wr.heap.size #[.string ⟨#[]⟩] Tryz.underlying26 info_str rfl (by decide) rfl (hrow.out.own.alloc _) rfl (Blk.new _ _ _ rfl) rfl rfl (by intro u hu; simp at hu; subst hu; rfl) (by unfold maxLen; omega) (by omega) (by simp; omega) ?_); intro v' w' hown' hgr')
        go_roundw
        case rel =>
          obtain ⟨g', cap', rfl, hr'⟩ := own_srow hown' (by simp)
          exact ⟨k + 1, f ++ [t], ⟨#[]⟩, g', cap', by omega, by go_num, rfl, Lib.hid hr', Lib.hid HP.out, Lib.hid (below_own (hB.out.alloc (by omega) _) (hrow.out.own.alloc _) hgr' (by simp; omega))⟩
        case measure => simp [intOf]; omega
      · have HC := Lib.hid hc
        have t1 : ((s[k].toNat : Int) == 46) = false := by
          have : s[k].toNat ≠ 46 := fun e => hc (UInt8.toNat_inj.1 e)
          simp; omega
        have HP := Lib.hid (hpc.out.byte hlt hc)
        clear hc
        obtain ⟨c0, c1⟩ := hrow.out.cell (j := f.length) (x := t) (by simp)
        rw [Nat.zero_add] at c0 c1
        have d0 : wr.drew.cell? ⟨g, f.length, none⟩ = some (.string t) := c0
        have d1 : wr.drew.frozen? ⟨g, f.length, none⟩ = false := c1
        clear c0 c1
        have z0 := ext_byte hlt
        have z1 : (s.extract k (k + 1)).size = 1 := by rw [z0]; rfl
        have z2 : t.size ≤ s.size := hpc.out.size (by simp)
        have z3 : (t ++ s.extract k (k + 1)).size ≤ 2000 := by rw [ByteArray.size_append]; omega
        clear z0
        have hfl : (f ++ [t]).length = f.length + 1 := by simp
        rw [hfl]
        have e1 : ((f.length + 1 : Nat) : Int) - 1 = f.length := by omega
        go_wp2
        go_region
        go_wp2
        go_roundw
        case rel => exact ⟨k + 1, f, t ++ s.extract k (k + 1), g, cap, by omega, by go_num, by simp, Lib.hid (SRow.below (hrow.out.set _) ((Below.refl _ _).drew) (Nat.le_refl _)), Lib.hid (by rw [ext_byte hlt]; exact HP.out), Lib.hid ((hB.out.setCell hrow.out.lt.2 _).drew)⟩
        case measure => simp [intOf]; omega
    · have hks : k = s.size := by omega
      subst hks
      have hall := hpc.out.all
      have HL := Lib.hid hall
      clear hall
      generalize hpe : f ++ [t] = l at *
      have hne : l ≠ [] := by rw [← hpe]; simp
      clear hpe
      by_cases h16 : 16 ≤ l.length
      · have hP : pathP s = ([], 5) := by rw [pathP, HL.out, if_pos h16]
        go_wp2
        go_ret2
        exact ⟨.inl ⟨by rw [hP], by rw [hP]; rfl⟩, hB.out⟩
      · have hsz : ∀ t ∈ l, t.size ≤ s.size := fun t ht => hpc.out.size ht
        have HZ := Lib.hid hsz
        clear hsz
        obtain ⟨w0, rfl⟩ : ∃ w0, w0 = wr := ⟨_, rfl⟩
        have hg0 : GW w0 := hg.below hB.out
        go_wp2
        go_loopw [6] (fun i w2 => ∃ j : Nat, j ≤ l.length ∧ i = .int .i64 j ∧ Hid (Below w0.heap.size w0 w2) ∧ Hid (∀ t ∈ l.take j, wdB t = true)) (fun i _ => l.length - (intOf i).toNat)
        case atStart => exact ⟨0, by omega, rfl, Lib.hid (Below.refl _ _), Lib.hid (by simp)⟩
        case round =>
          obtain ⟨j, hj, rfl, hB2, hw⟩ := hrel
          have hr2 := Lib.hid (hrow.out.below hB2.out (Nat.le_refl _))
          have hB2s := hB2.out.size
          have HB3 := Lib.hid (hB.out.trans (hB2.out.mono hB1))
          by_cases hlt2 : j < l.length
          · obtain ⟨x, hx⟩ : ∃ x, l[j]? = some x := ⟨_, List.getElem?_eq_getElem hlt2⟩
            have hxs := HZ.out x (List.mem_of_getElem? hx)
            have HX := Lib.hid hx
            obtain ⟨c0, c1⟩ := hr2.out.cell hx
            rw [Nat.zero_add] at c0
            clear hx c1
            have hg2 : GW wr := hg0.below hB2.out
            go_wp2_with fail
            refine (refWord_any x wr (by omega) hg2).mono ?_
            rintro e w3 ⟨rfl, hb3⟩
            by_cases hwx : wdB x = true
            · have HT := Lib.hid (show ∀ t ∈ l.take (j + 1), wdB t = true from fun t ht => by
                rw [take_snoc HX.out] at ht
                rcases List.mem_append.1 ht with ht | ht
                · exact hw.out t ht
                · rw [List.mem_singleton.1 ht]; exact hwx)
              have HB4 := Lib.hid (hB2.out.trans (hb3.mono hB2s))
              rw [hwx]
              clear hwx c0 hb3
              go_wp2
              go_roundw
              case rel => exact ⟨j + 1, by omega, by go_num, HB4, HT⟩
              case measure => simp [intOf]; omega
            · have hno : wdB x = false := by simpa using hwx
              have hP : pathP s = ([], 10) := by
                rw [pathP, HL.out, if_neg h16, if_neg]
                intro h
                have := List.all_eq_true.1 h x (List.mem_of_getElem? HX.out)
                rw [hno] at this
                cases this
              have HB4 := Lib.hid (HB3.out.trans (hb3.mono HB3.out.size))
              rw [hno]
              clear hwx c0 hb3 hno
              go_wp2
              go_ret2
              exact ⟨.inl ⟨by rw [hP], by rw [hP]; rfl⟩, HB4.out⟩
          · have e1 : j = l.length := by omega
            subst e1
            have hall : l.all wdB = true := List.all_eq_true.2 fun t ht => hw.out t (by rw [List.take_length]; exact ht)
            have hP : pathP s = (l, 0) := by rw [pathP, HL.out, if_neg h16, if_pos hall]
            clear hall
            go_wp2
            go_ret2
            exact ⟨.inr ⟨g, cap, by rw [hP]; rfl, by rw [hP]; exact hr2.out⟩, HB3.out⟩
/-- a row of the call's own, once it is answered: as a list -/
theorem SRow.rel {σ : Sg} {w : World} {base g cap : Nat} {l : List ByteArray} (h : SRow w base g cap l) (hh : Holds σ w) (hfree : ∀ b o, base ≤ b → σ b o = none) : ∃ σ', Ext σ σ' base ∧ Holds σ' w ∧ Rel1 σ' (.slice (some ⟨g, 0, none⟩) l.length cap) (.lst .any 1 (rowsP l)) := by
  have hlt := h.lt
  have hcap : l.length ≤ cap := by obtain ⟨_, _, _, h3, _⟩ := h.out; exact h3
  refine ⟨fun b o => if b = g then (w.cell? ⟨g, o, none⟩) else σ b o, ⟨fun b o v hv => ?_, fun b o hb => ?_⟩, fun b o v hv => ?_, ?_⟩
  · by_cases e : b = g
    · subst e
      rw [hfree b o hlt.2] at hv
      cases hv
    · show (if b = g then _ else σ b o) = _
      rw [if_neg e]; exact hv
  · show (if b = g then _ else σ b o) = _
    rw [if_neg (by omega)]
  · have hv : (if b = g then (w.cell? ⟨g, o, none⟩) else σ b o) = some v := hv
    by_cases e : b = g
    · subst e
      rw [if_pos rfl] at hv; exact hv
    · rw [if_neg e] at hv; exact hh _ _ _ hv
  · refine Rel1.lst .any 1 (rowsP l) _ _ cap g 0 (fun i j => .string (l.getD i ⟨#[]⟩)) (by rw [rowsP_len]) hcap (fun _ => rfl) (fun i c hc => ?_) (fun i j hi hj => ?_) (fun i j c a hc ha => ?_) trivial
    · simp only [rowsP, List.getElem?_map] at hc
      cases hx : l[i]? with
      | none => rw [hx] at hc; cases hc
      | some x => rw [hx] at hc; cases hc; rfl
    · have hj0 : j = 0 := by omega
      subst hj0
      have hx : l[i]? = some (l.getD i ⟨#[]⟩) := by rw [List.getD_eq_getElem?_getD, List.getElem?_eq_getElem hi]; rfl
      have := (h.cell hx).1
      show (if g = g then _ else _) = _
      rw [if_pos rfl, show 0 + i * 1 + 0 = 0 + i by omega]
      exact this
    · simp only [rowsP, List.getElem?_map] at hc
      cases hx : l[i]? with
      | none => rw [hx] at hc; cases hc
      | some x =>
        rw [hx] at hc
        cases hc
        rcases j with _ | j <;> simp at ha
        subst ha
        have e : l.getD i ⟨#[]⟩ = x := by rw [List.getD_eq_getElem?_getD, hx]; rfl
        rw [e]
        exact .str x
end Go.Proofs.YtfnpjakekeojoaaGreatDoor
/-
  The document's parting of a path: as it is asked for by calls.
-/
namespace Go.Proofs.YtfnpjakekeojoaaGreatDoor
set_option linter.unusedSimpArgs false
set_option linter.unusedVariables false
open Go.RowKit

theorem relR_two {σ : Sg} {u v : Value} {n : Int} {e : Nat} {rows : List (List AV)} {t : Tag} (h1 : Rel1 σ u (.lst t e rows)) (h2 : Rel1 σ v (.int .i64 n)) : RelR σ (.tuple #[u, v]) (.tup [.lst t e rows, .int .i64 n]) := by
  refine ⟨[u, v], rfl, rfl, fun j a b ha hb => ?_⟩
  rcases j with _ | _ | j <;> simp at ha hb
  · subst ha hb; exact h1
  · subst ha hb; exact h2
theorem refPath_ok : RefPathOk := fun s hs => by
  refine ⟨by kernel_rfl, fun σ w vs hh hr hg => ?_⟩
  have hl : vs.length = 1 := hr.1
  obtain ⟨v1, rfl⟩ : ∃ a, vs = [a] := by
    rcases vs with _ | ⟨a, _ | ⟨b, l⟩⟩ <;> simp at hl
    exact ⟨a, rfl⟩
  have h1 : Rel1 σ v1 (.str s) := hr.2 0 v1 _ rfl rfl
  cases h1
  refine (refPath_any s w hs hg).mono ?_
  rintro e w' ⟨hres, hb⟩
  have hh' : Holds σ w' := fun b o v hv => (hb.cell (p := ⟨b, o, none⟩) (World.block_lt_of_cell? w _ (hh _ _ _ hv))).trans (hh _ _ _ hv)
  have hfree : ∀ b o, w.heap.size ≤ b → σ b o = none := fun b o hbo => by
    cases hq : σ b o with
    | none => rfl
    | some v =>
      have := World.block_lt_of_cell? w _ (hh _ _ _ hq)
      exact absurd this (by simp; omega)
  rcases hres with ⟨h0, rfl⟩ | ⟨g, cap, rfl, hrow⟩
  · refine ⟨σ, _, rfl, Ext.refl _ _, hh', hb, ?_⟩
    rw [h0]
    exact relR_two (Rel1.lst .any 1 [] none 0 0 0 0 (fun _ _ => undef) rfl (Nat.le_refl _) (fun h => absurd h (by decide)) (fun i c h => by simp at h) (fun i j h => by omega) (fun i j c a h => by simp at h) trivial) (Rel1.int _ _)
  · obtain ⟨σ', x1, x2, x3⟩ := hrow.rel hh' hfree
    exact ⟨σ', _, rfl, x1, x2, hb, relR_two x3 (Rel1.int _ _)⟩
end Go.Proofs.YtfnpjakekeojoaaGreatDoor
