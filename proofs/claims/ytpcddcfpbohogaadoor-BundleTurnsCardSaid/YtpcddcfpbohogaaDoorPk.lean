/-
  bundle.Pack, walked; the document's example of layer 22.
-/
import Derived.Test.YtpcddcfpbohogaaDoorNam
import Derived.Test.YtpcddcfpbohogaaDoorEm5
import Derived.Test.YtpcddcfpbohogaaDoorPkP
import Derived.Test.YtpcddcfpbohogaaDoorOg
namespace Go.Proofs.YtpcddcfpbohogaaDoor
set_option linter.unusedSimpArgs false
set_option linter.unusedVariables false
open Go.RowKit

def prB (v : V) : ByteArray := if v.kind = 3 then wordB v.s else ⟨#[123, 125]⟩
/-- a map of texts, none of them long -/
def FlatM (m : List (ByteArray × V)) : Prop := ∀ p ∈ m, (∃ t : ByteArray, p.2 = vTxt t ∧ t.size ≤ 1000000) ∧ p.1.size ≤ 1000000
def FlatV (v : V) : Prop := (∃ t : ByteArray, v = vTxt t ∧ t.size ≤ 1000000) ∨ ∃ m, v = vMap m ∧ FlatM m
theorem printMap_a : AC Tryd.prog 54 [.agg [.int .i64 ((vMap [])).kind, .bool ((vMap [])).b, .int .i64 ((vMap [])).n, .str ((vMap [])).s, .lst .any 6 (rowsV ((vMap [])).l), .lst .any 7 (rowsM ((vMap [])).m)]] (.str ⟨#[123, 125]⟩) := by
  refine AC.enter Tryd.func54 a_scalar_Print_ok a_scalar_Print_cb (by rfl) fun E hE => ?_
  show AK _ _ _ [.c b_scalar_Print] _ _
  rw [b_scalar_Print]
  (repeat (first | apply kS | apply kB | apply kL | apply kN | (refine kR follows_any [] (by rfl) ?_ ?_; first | exact kT1 | exact kT2 | exact kT3 | exact kT4)))
  refine AK.cond (by rfl) (fun hb => ?_) (fun hb => ?_)
  · cases hb
  (repeat (first | apply kS | apply kB | apply kL | apply kN | (refine kR follows_any [] (by rfl) ?_ ?_; first | exact kT1 | exact kT2 | exact kT3 | exact kT4)))
  refine AK.cond (by rfl) (fun hb => ?_) (fun hb => ?_)
  · cases hb
  (repeat (first | apply kS | apply kB | apply kL | apply kN | (refine kR follows_any [] (by rfl) ?_ ?_; first | exact kT1 | exact kT2 | exact kT3 | exact kT4)))
  refine AK.cond (by rfl) (fun hb => ?_) (fun hb => ?_)
  · cases hb
  (repeat (first | apply kS | apply kB | apply kL | apply kN | (refine kR follows_any [] (by rfl) ?_ ?_; first | exact kT1 | exact kT2 | exact kT3 | exact kT4)))
  refine AK.cond (by rfl) (fun hb => ?_) (fun hb => ?_)
  · cases hb
  (repeat (first | apply kS | apply kB | apply kL | apply kN | (refine kR follows_any [] (by rfl) ?_ ?_; first | exact kT1 | exact kT2 | exact kT3 | exact kT4)))
  refine AK.cond (by rfl) (fun hb => ?_) (fun hb => ?_)
  · (repeat (first | apply kS | apply kB | apply kL | apply kN | (refine kR follows_any [] (by rfl) ?_ ?_; first | exact kT1 | exact kT2 | exact kT3 | exact kT4)))
    refine AK.ret ⟨_, rfl, ?_⟩
    rfl
  · cases hb
theorem flat_print : ∀ v, FlatV v → v.leaf = true → AC Tryd.prog 54 [.agg [.int .i64 (v).kind, .bool (v).b, .int .i64 (v).n, .str (v).s, .lst .any 6 (rowsV (v).l), .lst .any 7 (rowsM (v).m)]] (.str (prB v)) := by
  rintro v (⟨t, rfl, ht⟩ | ⟨m, rfl, hm⟩) hl
  · exact print_a t ht
  · cases m with
    | nil => exact printMap_a
    | cons p m => cases hl
theorem flat_sub : ∀ v, FlatV v → (∀ x ∈ v.l, FlatV x) ∧ ∀ p ∈ v.m, FlatV p.2 ∧ p.1.size ≤ 1000000 := by
  rintro v (⟨t, rfl, ht⟩ | ⟨m, rfl, hm⟩)
  · exact ⟨fun x hx => (by cases hx), fun p hp => (by cases hp)⟩
  · exact ⟨fun x hx => (by cases hx), fun p hp => ⟨.inl (hm p hp).1, (hm p hp).2⟩⟩
theorem vTxt_size (t : ByteArray) : (vTxt t).size = 1 := by simp [vTxt, V.size, sizeL, sizeM]
theorem flat_size : ∀ {m : List (ByteArray × V)}, FlatM m → sizeM m = m.length
  | [], _ => rfl
  | (y, x) :: m, h => by
    obtain ⟨⟨t, ht, _⟩, _⟩ := h (y, x) (by simp)
    have ht : x = vTxt t := ht
    rw [sizeM, flat_size (fun p hp => h p (by simp [hp])), ht, vTxt_size, List.length_cons]
    omega
theorem flat_lay : ∀ {m : List (ByteArray × V)}, FlatM m → (layM wordB prB m 0).size ≤ m.length * 5000000
  | [], _ => by rw [layM]; exact Nat.zero_le _
  | (y, x) :: m, h => by
    obtain ⟨⟨t, ht, hz⟩, hy⟩ := h (y, x) (by simp)
    have ht : x = vTxt t := ht
    have hy : y.size ≤ 1000000 := hy
    have ih := flat_lay (m := m) (fun p hp => h p (by simp [hp]))
    have h1 := wordB_size y
    have h2 := wordB_size t
    have e1 : x.tail wordB prB 0 = ⟨#[32]⟩ ++ wordB t ++ ⟨#[10]⟩ := by subst ht; rfl
    rw [layM_cons, e1]
    have z1 : (ByteArray.mk #[32]).size = 1 := rfl
    have z2 : (ByteArray.mk #[10]).size = 1 := rfl
    have z3 : (ByteArray.mk #[58]).size = 1 := rfl
    simp only [ByteArray.size_append, padB_size, List.length_cons]
    omega
theorem flat_emit {m : List (ByteArray × V)} (h : FlatM m) (hl : m.length ≤ 100) : ((vMap m).emit wordB prB).size ≤ 1000000000 := by
  have h1 := flat_lay h
  have h2 : (vMap m).lay wordB prB 0 = layM wordB prB m 0 := by rw [V.lay_eq]; exact empty_app _
  rw [V.emit]
  split
  · rw [ByteArray.size_append]
    show 2 + 1 ≤ _
    omega
  · rw [h2]; omega
def emitM (m : List (ByteArray × V)) : ByteArray := (vMap m).emit wordB prB
theorem emitM_a {m : List (ByteArray × V)} (h : FlatM m) (hl : m.length ≤ 100) : AC Tryd.prog 35 [.agg [.int .i64 ((vMap m)).kind, .bool ((vMap m)).b, .int .i64 ((vMap m)).n, .str ((vMap m)).s, .lst .any 6 (rowsV ((vMap m)).l), .lst .any 7 (rowsM ((vMap m)).m)]] (.str (emitM m)) := by
  have h1 := flat_emit h hl
  refine emitTop_a flat_print flat_sub (vMap m) (.inr ⟨m, rfl, h⟩) ?_ (by omega)
  rw [vMap_size, flat_size h]
  omega
theorem flat_insert {m : List (ByteArray × V)} (h : FlatM m) {n t : ByteArray} (hn : n.size ≤ 1000000) (ht : t.size ≤ 1000000) : FlatM (minsert n (vTxt t) m) := fun p hp => by
  rcases minsert_mem hp with e | hp
  · subst e; exact ⟨⟨t, rfl, ht⟩, hn⟩
  · exact h p hp
theorem flat_ord {m : List (ByteArray × V)} (h : FlatM m) (hr : Rises m) : (vMap m).ord := vMap_ord hr fun p hp => by
  obtain ⟨⟨t, ht, _⟩, _⟩ := h p hp
  rw [ht]
  refine (V.ord_eq _).2 ⟨fun e => ?_, fun _ => rfl, List.Pairwise.nil, fun q hq => by cases hq⟩
  cases (show (3 : Int) = 5 from e)
theorem mapNil_a : AC Tryd.prog 29 [.lst .any 7 []] (.agg [.int .i64 ((vMap [])).kind, .bool ((vMap [])).b, .int .i64 ((vMap [])).n, .str ((vMap [])).s, .lst .any 6 (rowsV ((vMap [])).l), .lst .any 7 (rowsM ((vMap [])).m)]) := treeMap_a [] (by decide)
theorem str_av (t : ByteArray) : AC Tryd.prog 34 [.str t] (.agg [.int .i64 ((vTxt t)).kind, .bool ((vTxt t)).b, .int .i64 ((vTxt t)).n, .str ((vTxt t)).s, .lst .any 6 (rowsV ((vTxt t)).l), .lst .any 7 (rowsM ((vTxt t)).m)]) := str_a t
theorem pack_a (l : List Fl) (hl : l.length ≤ 4398046511103) (hz : l.length ≤ 32 → ∀ p ∈ l, p.1.size ≤ 1000000 ∧ p.2.size ≤ 1000000) :
    AC Tryd.prog 15 [.lst .any 2 (rowsF l)] (.tup [.str (packP nameC 22 emitM l).1, .int .i64 (packP nameC 22 emitM l).2]) := by
  have h1 := mapNil_a
  refine AC.enter Tryd.func15 a_bundle_Pack_ok a_bundle_Pack_cb (by rfl) fun E hE => ?_
  show AK _ _ _ [.c b_bundle_Pack] _ _
  rw [b_bundle_Pack]
  (repeat (first | apply kS | apply kB | apply kL | apply kN | (refine kR follows_any [] (by rfl) ?_ ?_; first | exact kT1 | exact kT2 | exact kT3 | exact kT4)))
  refine AK.cond (by rfl) (fun hb => ?_) (fun hb => ?_)
  · have h32 : 32 < l.length := by simp [rowsF_len] at hb; omega
    (repeat (first | apply kS | apply kB | apply kL | apply kN | (refine kR follows_any [] (by rfl) ?_ ?_; first | exact kT1 | exact kT2 | exact kT3 | exact kT4)))
    refine AK.ret ⟨_, rfl, ?_⟩
    rw [packP, if_pos h32]
    rfl
  have h32 : ¬ 32 < l.length := by simp [rowsF_len] at hb; omega
  have hz := hz (by omega)
  (repeat (first | apply kS | apply kB | apply kL | apply kN | (refine kR follows_any [] (by rfl) ?_ ?_; first | exact kT1 | exact kT2 | exact kT3 | exact kT4)))
  refine kR follows_any [.v (.agg [.int .i64 ((vMap [])).kind, .bool ((vMap [])).b, .int .i64 ((vMap [])).n, .str ((vMap [])).s, .lst .any 6 (rowsV ((vMap [])).l), .lst .any 7 (rowsM ((vMap [])).m)])] (by rfl) ?_ ?_
  · ((repeat' apply And.intro) <;> first | trivial | omega | (simp only [List.length_nil, List.length_cons]; omega) | (intro hgd; first | (rw [hgd]; rfl) | (refine ⟨?_, by repeat (first | exact trivial | refine ⟨hgd, ?_⟩)⟩; (repeat' apply And.intro) <;> first | trivial | omega | (intro h2; rw [hgd, h2]; rfl) | skip)) | skip)
  (repeat (first | apply kS | apply kB | apply kL | apply kN | (refine kR follows_any [] (by rfl) ?_ ?_; first | exact kT1 | exact kT2 | exact kT3 | exact kT4)))
  refine AK.loopI (fun i : Nat × List (ByteArray × V) => (frOf [(4, .ptr 4 0), (14, .lst .any 2 (rowsF l)), (15, .int .i64 (rowsF l).length), (16, .int .i64 i.1)], ⟨boxOf [(4, [.int .i64 5, .bool false, .int .i64 0, .str ⟨#[]⟩, .lst .any 6 [], .lst .any 7 (rowsM i.2)], false)], fun _ => 0⟩))
    (fun i => i.1 ≤ l.length ∧ packE nameC 22 l [] = packE nameC 22 (l.drop i.1) i.2 ∧ Rises i.2 ∧ FlatM i.2 ∧ i.2.length ≤ i.1) (fun i => l.length - i.1) (0, []) ⟨Nat.zero_le _, rfl, List.Pairwise.nil, fun p hp => (by cases hp), Nat.le_refl _⟩ (Weak.intro ⟨⟨_, rfl, .refl _⟩, ⟨_, rfl, .refl _⟩, ⟨_, rfl, .refl _⟩, ⟨_, rfl, .refl _⟩, trivial⟩ ⟨⟨_, rfl, leL_refl _⟩, trivial⟩ rfl rfl) fun ⟨k, m⟩ ⟨hk, hP, hr, hf, hml⟩ => ?_
  dsimp only at hk hP hr hf hml
  have ho := flat_ord hf hr
  have hsm := flat_size hf
  (repeat (first | apply kS | apply kB | apply kL | apply kN | (refine kR follows_any [] (by rfl) ?_ ?_; first | exact kT1 | exact kT2 | exact kT3 | exact kT4)))
  refine AK.cond (by rfl) (fun hb => ?_) (fun hb => ?_)
  · have hlt : k < l.length := by simpa [rowsF_len] using hb
    obtain ⟨p, hg⟩ : ∃ x, l[k]? = some x := ⟨_, List.getElem?_eq_getElem hlt⟩
    have hpz := hz p (List.mem_of_getElem? hg)
    have hd := drop_atT hg
    rw [← hd] at hP
    have hm2 := (minsert_bound (key := p.1) (x := vTxt p.2) m).2
    (repeat (first | apply kS | apply kB | apply kL | apply kN | (refine kR follows_any [] (by rfl) ?_ ?_; first | exact kT1 | exact kT2 | exact kT3 | exact kT4)))
    refine kR follows_any [.c [.str p.1, .str p.2]] (by rfl) ?_ ?_
    · ((repeat' apply And.intro) <;> first | trivial | omega | (simp only [List.length_nil, List.length_cons]; omega) | (intro hgd; first | (rw [hgd]; rfl) | (refine ⟨?_, by repeat (first | exact trivial | refine ⟨hgd, ?_⟩)⟩; (repeat' apply And.intro) <;> first | trivial | omega | (intro h2; rw [hgd, h2]; rfl) | skip)) | skip)
      · exact rowsF_at hg
    (repeat (first | apply kS | apply kB | apply kL | apply kN | (refine kR follows_any [] (by rfl) ?_ ?_; first | exact kT1 | exact kT2 | exact kT3 | exact kT4)))
    refine kR follows_any [.v (.tup [.agg [.int .i64 (((mfind p.1 m).getD V.null)).kind, .bool (((mfind p.1 m).getD V.null)).b, .int .i64 (((mfind p.1 m).getD V.null)).n, .str (((mfind p.1 m).getD V.null)).s, .lst .any 6 (rowsV (((mfind p.1 m).getD V.null)).l), .lst .any 7 (rowsM (((mfind p.1 m).getD V.null)).m)], .bool (mfind p.1 m).isSome])] (by rfl) ?_ ?_
    · ((repeat' apply And.intro) <;> first | trivial | omega | (simp only [List.length_nil, List.length_cons]; omega) | (intro hgd; first | (rw [hgd]; rfl) | (refine ⟨?_, by repeat (first | exact trivial | refine ⟨hgd, ?_⟩)⟩; (repeat' apply And.intro) <;> first | trivial | omega | (intro h2; rw [hgd, h2]; rfl) | skip)) | skip)
      · exact treeGet_o (vMap m) p.1 ho (by rw [vMap_size]; omega)
    (repeat (first | apply kS | apply kB | apply kL | apply kN | (refine kR follows_any [] (by rfl) ?_ ?_; first | exact kT1 | exact kT2 | exact kT3 | exact kT4)))
    refine kR follows_any [.v (.bool (nameC p.1))] (by rfl) ?_ ?_
    · ((repeat' apply And.intro) <;> first | trivial | omega | (simp only [List.length_nil, List.length_cons]; omega) | (intro hgd; first | (rw [hgd]; rfl) | (refine ⟨?_, by repeat (first | exact trivial | refine ⟨hgd, ?_⟩)⟩; (repeat' apply And.intro) <;> first | trivial | omega | (intro h2; rw [hgd, h2]; rfl) | skip)) | skip)
      · exact name_a p.1 hpz.1
    refine AK.cond (by rfl) (fun hb => ?_) (fun hb => ?_)
    · have hn : nameC p.1 = false := by simpa using hb
      (repeat (first | apply kS | apply kB | apply kL | apply kN | (refine kR follows_any [] (by rfl) ?_ ?_; first | exact kT1 | exact kT2 | exact kT3 | exact kT4)))
      refine AK.ret ⟨_, rfl, ?_⟩
      rw [packP, if_neg h32, hP, packE, if_pos hn]
      rfl
    have hn : nameC p.1 = true := by simpa using hb
    have hn' : ¬ nameC p.1 = false := by rw [hn]; simp
    (repeat (first | apply kS | apply kB | apply kL | apply kN | (refine kR follows_any [] (by rfl) ?_ ?_; first | exact kT1 | exact kT2 | exact kT3 | exact kT4)))
    refine kR follows_any [.v (.bool (textB p.2))] (by rfl) ?_ ?_
    · ((repeat' apply And.intro) <;> first | trivial | omega | (simp only [List.length_nil, List.length_cons]; omega) | (intro hgd; first | (rw [hgd]; rfl) | (refine ⟨?_, by repeat (first | exact trivial | refine ⟨hgd, ?_⟩)⟩; (repeat' apply And.intro) <;> first | trivial | omega | (intro h2; rw [hgd, h2]; rfl) | skip)) | skip)
      · exact treeText_a p.2 (by omega)
    refine AK.cond (by rfl) (fun hb => ?_) (fun hb => ?_)
    · have ht : textB p.2 = false := by simpa using hb
      (repeat (first | apply kS | apply kB | apply kL | apply kN | (refine kR follows_any [] (by rfl) ?_ ?_; first | exact kT1 | exact kT2 | exact kT3 | exact kT4)))
      refine AK.ret ⟨_, rfl, ?_⟩
      rw [packP, if_neg h32, hP, packE, if_neg hn', if_pos ht]
      rfl
    have ht : textB p.2 = true := by simpa using hb
    have ht' : ¬ textB p.2 = false := by rw [ht]; simp
    (repeat (first | apply kS | apply kB | apply kL | apply kN | (refine kR follows_any [] (by rfl) ?_ ?_; first | exact kT1 | exact kT2 | exact kT3 | exact kT4)))
    refine AK.cond (by rfl) (fun hb => ?_) (fun hb => ?_)
    · (repeat (first | apply kS | apply kB | apply kL | apply kN | (refine kR follows_any [] (by rfl) ?_ ?_; first | exact kT1 | exact kT2 | exact kT3 | exact kT4)))
      refine AK.ret ⟨_, rfl, ?_⟩
      rw [packP, if_neg h32, hP, packE, if_neg hn', if_neg ht', if_pos hb]
      rfl
    have hh' : ¬ (mfind p.1 m).isSome = true := by rw [hb]; simp
    (repeat (first | apply kS | apply kB | apply kL | apply kN | (refine kR follows_any [] (by rfl) ?_ ?_; first | exact kT1 | exact kT2 | exact kT3 | exact kT4)))
    refine kR follows_any [.v (.agg [.int .i64 ((vTxt p.2)).kind, .bool ((vTxt p.2)).b, .int .i64 ((vTxt p.2)).n, .str ((vTxt p.2)).s, .lst .any 6 (rowsV ((vTxt p.2)).l), .lst .any 7 (rowsM ((vTxt p.2)).m)]), .v (.agg [.int .i64 ((vMap (minsert p.1 (vTxt p.2) m))).kind, .bool ((vMap (minsert p.1 (vTxt p.2) m))).b, .int .i64 ((vMap (minsert p.1 (vTxt p.2) m))).n, .str ((vMap (minsert p.1 (vTxt p.2) m))).s, .lst .any 6 (rowsV ((vMap (minsert p.1 (vTxt p.2) m))).l), .lst .any 7 (rowsM ((vMap (minsert p.1 (vTxt p.2) m))).m)])] (by rfl) ?_ ?_
    · ((repeat' apply And.intro) <;> first | trivial | omega | (simp only [List.length_nil, List.length_cons]; omega) | (intro hgd; first | (rw [hgd]; rfl) | (refine ⟨?_, by repeat (first | exact trivial | refine ⟨hgd, ?_⟩)⟩; (repeat' apply And.intro) <;> first | trivial | omega | (intro h2; rw [hgd, h2]; rfl) | skip)) | skip)
      · exact str_av p.2
      · exact treePut_o (vMap m) p.1 (vTxt p.2) ho (by rw [vMap_size, vTxt_size]; omega)
    (repeat (first | apply kS | apply kB | apply kL | apply kN | (refine kR follows_any [] (by rfl) ?_ ?_; first | exact kT1 | exact kT2 | exact kT3 | exact kT4)))
    rw [packE, if_neg hn', if_neg ht', if_neg hh'] at hP
    exact AK.lp ⟨(k + 1, minsert p.1 (vTxt p.2) m), ⟨by dsimp only; omega, hP, minsert_rises hr, flat_insert hf hpz.1 hpz.2, by dsimp only; omega⟩, Weak.intro ⟨⟨_, rfl, .refl _⟩, ⟨_, rfl, .refl _⟩, ⟨_, rfl, .refl _⟩, ⟨_, rfl, .of_eq (congrArg _ (by first | omega | (rw [wrap_in (by omega) (by omega)]; omega)))⟩, trivial⟩ ⟨⟨_, rfl, leL_refl _⟩, trivial⟩ rfl rfl, by dsimp only; omega⟩
  · have hlt : k = l.length := by have : l.length ≤ k := by simpa [rowsF_len] using hb
                                  omega
    subst hlt
    rw [List.drop_length, packE] at hP
    refine AK.exit rfl ?_
    (repeat (first | apply kS | apply kB | apply kL | apply kN | (refine kR follows_any [] (by rfl) ?_ ?_; first | exact kT1 | exact kT2 | exact kT3 | exact kT4)))
    refine kR follows_any [.v (.str (emitM m))] (by rfl) ?_ ?_
    · ((repeat' apply And.intro) <;> first | trivial | omega | (simp only [List.length_nil, List.length_cons]; omega) | (intro hgd; first | (rw [hgd]; rfl) | (refine ⟨?_, by repeat (first | exact trivial | refine ⟨hgd, ?_⟩)⟩; (repeat' apply And.intro) <;> first | trivial | omega | (intro h2; rw [hgd, h2]; rfl) | skip)) | skip)
      · exact emitM_a hf (by omega)
    (repeat (first | apply kS | apply kB | apply kL | apply kN | (refine kR follows_any [] (by rfl) ?_ ?_; first | exact kT1 | exact kT2 | exact kT3 | exact kT4)))
    refine AK.cond (by rfl) (fun hb => ?_) (fun hb => ?_)
    · have hz2 : 65536 < (emitM m).size := by simp at hb; omega
      (repeat (first | apply kS | apply kB | apply kL | apply kN | (refine kR follows_any [] (by rfl) ?_ ?_; first | exact kT1 | exact kT2 | exact kT3 | exact kT4)))
      refine AK.ret ⟨_, rfl, ?_⟩
      rw [packP, if_neg h32, hP, if_neg (by simp), if_pos hz2]
      rfl
    · have hz2 : ¬ 65536 < (emitM m).size := by simp at hb; omega
      (repeat (first | apply kS | apply kB | apply kL | apply kN | (refine kR follows_any [] (by rfl) ?_ ?_; first | exact kT1 | exact kT2 | exact kT3 | exact kT4)))
      refine AK.ret ⟨_, rfl, ?_⟩
      rw [packP, if_neg h32, hP, if_neg (by simp), if_neg hz2]
      rfl
theorem awake22_a : AC Tryd.prog 14 [] (.bool true) := by
  have h1 := pack_a [] (by decide) (fun _ p hp => by cases hp)
  rw [show packP nameC 22 emitM [] = (⟨#[123, 125, 10]⟩, 0) by decide +kernel] at h1
  have h2 := sum_a ⟨#[]⟩ (by decide)
  refine AC.enter Tryd.func14 a_law22_awake_ok a_law22_awake_cb (by rfl) fun E hE => ?_
  show AK _ _ _ [.c b_law22_awake] _ _
  rw [b_law22_awake]
  (repeat (first | apply kS | apply kB | apply kL | apply kN | (refine kR follows_any [] (by rfl) ?_ ?_; first | exact kT1 | exact kT2 | exact kT3 | exact kT4)))
  refine kR follows_any [.v (.tup [.str ⟨#[123, 125, 10]⟩, .int .i64 0])] (by rfl) ?_ ?_
  · ((repeat' apply And.intro) <;> first | trivial | omega | (simp only [List.length_nil, List.length_cons]; omega) | (intro hgd; first | (rw [hgd]; rfl) | (refine ⟨?_, by repeat (first | exact trivial | refine ⟨hgd, ?_⟩)⟩; (repeat' apply And.intro) <;> first | trivial | omega | (intro h2; rw [hgd, h2]; rfl) | skip)) | skip)
  (repeat (first | apply kS | apply kB | apply kL | apply kN | (refine kR follows_any [] (by rfl) ?_ ?_; first | exact kT1 | exact kT2 | exact kT3 | exact kT4)))
  refine kR follows_any [.v (.int .u64 14695981039346656037)] (by rfl) ?_ ?_
  · ((repeat' apply And.intro) <;> first | trivial | omega | (simp only [List.length_nil, List.length_cons]; omega) | (intro hgd; first | (rw [hgd]; rfl) | (refine ⟨?_, by repeat (first | exact trivial | refine ⟨hgd, ?_⟩)⟩; (repeat' apply And.intro) <;> first | trivial | omega | (intro h2; rw [hgd, h2]; rfl) | skip)) | skip)
  (repeat (first | apply kS | apply kB | apply kL | apply kN | (refine kR follows_any [] (by rfl) ?_ ?_; first | exact kT1 | exact kT2 | exact kT3 | exact kT4)))
  refine AK.ret ⟨_, rfl, ?_⟩
  exact congrArg AV.bool (by decide +kernel)
end Go.Proofs.YtpcddcfpbohogaaDoor
