/-
  The texts that the claim wants, one behind the other: part 24.
-/
import Derived.Test.YtgekcnpfflhpkaaGreatDoorS23
import Derived.Lib.Join
import Derived.Test.YtgekcnpfflhpkaaGreatDoorChecked
import Derived.KernelRfl
set_option linter.unusedSimpArgs false
set_option linter.unusedVariables false
namespace Go.Proofs.YtgekcnpfflhpkaaGreatDoor
open Go.RowKit
def dash3 (x : Bs) : Bool := tr x == [45, 45, 45]
def dstep (st : List (List Bs) × List Bs) (x : Bs) : List (List Bs) × List Bs := if dash3 x = true then (st.1 ++ [st.2], []) else (st.1, st.2 ++ [x])
def docR (st : List (List Bs) × List Bs) (l : List Bs) : List (List Bs) × List Bs := l.foldl dstep st
def lnsOf : Bs → List Bs
 | [] => [[]]
 | c :: t => if c = 10 then [] :: lnsOf t else match lnsOf t with
  | [] => [[c]]
  | x :: l => (c :: x) :: l
def docsL (s : Bs) : List Bs := ((docR ([], []) (lnsOf s)).1 ++ [(docR ([], []) (lnsOf s)).2]).map (joinC 10)
theorem lnsOf_ne : ∀ s : Bs, lnsOf s ≠ []
 | [] => by simp [lnsOf]
 | c :: t => by
  rw [lnsOf]
  split
  ·simp
  ·split <;> simp
theorem lnsOf_nl : ∀ (s : Bs), ∀ x ∈ lnsOf s, (10 : UInt8) ∉ x
 | [], x, h => by rw [lnsOf, List.mem_singleton] at h; subst h; simp
 | c :: t, x, h => by
  have ih := lnsOf_nl t
  rw [lnsOf] at h
  split at h
  ·rcases List.mem_cons.1 h with rfl | h
   ·simp
   ·exact ih x h
  ·rename_i hc
   split at h
   ·rw [List.mem_singleton] at h; subst h; simpa using Ne.symm hc
   ·rename_i y l he
    rw [he] at ih
    rcases List.mem_cons.1 h with rfl | h
    ·simp only [List.mem_cons, not_or]
     exact ⟨Ne.symm hc, ih y (by simp)⟩
    ·exact ih x (by simp [h])
theorem joinC_lns : ∀ s : Bs, joinC 10 (lnsOf s) = s
 | [] => rfl
 | c :: t => by
  have ih := joinC_lns t
  rw [lnsOf]
  split
  ·rename_i hc
   subst hc
   cases h : lnsOf t with
   | nil => exact absurd h (lnsOf_ne t)
   | cons x l => rw [joinC_cons, ← h, ih]; rfl
  ·split
   ·rename_i h; exact absurd h (lnsOf_ne t)
   ·rename_i x l h
    rw [h] at ih
    rw [← ih]
    rfl
theorem splT_lns (s : ByteArray) : (splT 10 s).map (fun x => x.data.toList) = lnsOf s.data.toList := splT_join (lnsOf_ne _) (lnsOf_nl _) (joinC_lns _).symm
theorem lns_join {ls : List Bs} (hne : ls ≠ []) (h : ∀ x ∈ ls, (10 : UInt8) ∉ x) : lnsOf (joinC 10 ls) = ls := by
 have h1 := splT_lns (toB (joinC 10 ls))
 rw [splT_join hne h rfl] at h1
 exact h1.symm
theorem joinC_app {c : UInt8} : ∀ {a b : List Bs}, a ≠ [] → b ≠ [] → joinC c (a ++ b) = joinC c a ++ c :: joinC c b
 | [], _, h, _ => absurd rfl h
 | [x], [], _, h => absurd rfl h
 | [x], y :: b, _, _ => by
  show joinC c (x :: y :: b) = _
  rw [joinC_cons]
  simp [joinC]
 | x :: y :: a, b, _, hb => by
  have ih := joinC_app (c := c) (a := y :: a) (b := b) (by simp) hb
  show joinC c (x :: y :: (a ++ b)) = _
  rw [joinC_cons, joinC_cons]
  rw [List.cons_append] at ih
  rw [ih]
  simp
theorem docR_app (st : List (List Bs) × List Bs) (a b : List Bs) : docR st (a ++ b) = docR (docR st a) b := List.foldl_append
theorem docR_none : ∀ {a : List Bs} (st : List (List Bs) × List Bs), (∀ x ∈ a, dash3 x = false) → docR st a = (st.1, st.2 ++ a)
 | [], st, _ => by simp [docR]
 | x :: a, st, h => by
  show docR (dstep st x) a = _
  rw [dstep, if_neg (by rw [h x (by simp)]; simp), docR_none _ fun y hy => h y (by simp [hy])]
  simp
theorem docR_all {d : Bs} (hd : dash3 d = true) : ∀ (l : List (List Bs)) (a : List Bs) (st : List (List Bs) × List Bs), (∀ x ∈ a, dash3 x = false) → (∀ b ∈ l, ∀ x ∈ b, dash3 x = false) →
  (docR st (a ++ l.flatMap fun b => d :: b)).1 ++ [(docR st (a ++ l.flatMap fun b => d :: b)).2] = st.1 ++ (st.2 ++ a) :: l
 | [], a, st, ha, _ => by simp [docR_none st ha]
 | b :: l, a, st, ha, hl => by
  rw [docR_app, docR_none st ha, List.flatMap_cons]
  show (docR (dstep (st.1, st.2 ++ a) d) _).1 ++ [(docR (dstep (st.1, st.2 ++ a) d) _).2] = _
  rw [dstep, if_pos hd]
  have := docR_all hd l b (st.1 ++ [st.2 ++ a], []) (hl b (by simp)) fun c hc => hl c (by simp [hc])
  simp only [List.append_eq] at this ⊢
  rw [this]
  simp
def allL (d : Bs) : List Bs → Bs
 | [] => []
 | x :: l => x ++ l.flatMap fun t => 10 :: (d ++ 10 :: t)
theorem allL_join (d : Bs) : ∀ (l : List (List Bs)) (a : List Bs), a ≠ [] → (∀ b ∈ l, b ≠ []) → joinC 10 (a ++ l.flatMap fun b => d :: b) = allL d (joinC 10 a :: l.map (joinC 10))
 | [], a, _, _ => by simp [allL]
 | b :: l, a, ha, hl => by
  have hb := hl b (by simp)
  have ih := allL_join d l b hb fun c hc => hl c (by simp [hc])
  obtain ⟨y, t, e⟩ : ∃ y t, b ++ (l.flatMap fun b => d :: b) = y :: t := by
   cases b with
   | nil => exact absurd rfl hb
   | cons y t => exact ⟨y, _, rfl⟩
  rw [List.flatMap_cons, joinC_app ha (by simp)]
  show joinC 10 a ++ 10 :: joinC 10 (d :: (b ++ _)) = _
  rw [e] at ih ⊢
  rw [joinC_cons, ih]
  simp [allL]
theorem docs_all {d : Bs} (hd : dash3 d = true) (hn : (10 : UInt8) ∉ d) {ss : List Bs} (hne : ss ≠ []) (h : ∀ s ∈ ss, ∀ x ∈ lnsOf s, dash3 x = false) : docsL (allL d ss) = ss := by
 obtain ⟨s, ss, rfl⟩ : ∃ s t, ss = s :: t := by
  cases ss with
  | nil => exact absurd rfl hne
  | cons s t => exact ⟨s, t, rfl⟩
 have hmap : (ss.map lnsOf).map (joinC 10) = ss := by
  rw [List.map_map]
  exact (List.map_congr_left fun x _ => joinC_lns x).trans (List.map_id _)
 have e : allL d (s :: ss) = joinC 10 (lnsOf s ++ (ss.map lnsOf).flatMap fun b => d :: b) := by
  rw [allL_join d _ _ (lnsOf_ne s) (fun b hb => by obtain ⟨x, _, rfl⟩ := List.mem_map.1 hb; exact lnsOf_ne x), joinC_lns, hmap]
 have hl : lnsOf (allL d (s :: ss)) = lnsOf s ++ (ss.map lnsOf).flatMap fun b => d :: b := by
  rw [e]
  refine lns_join (by simp [lnsOf_ne s]) fun x hx => ?_
  rcases List.mem_append.1 hx with hx | hx
  ·exact lnsOf_nl s x hx
  ·obtain ⟨b, hb, hx⟩ := List.mem_flatMap.1 hx
   obtain ⟨t, _, rfl⟩ := List.mem_map.1 hb
   rcases List.mem_cons.1 hx with rfl | hx
   ·exact hn
   ·exact lnsOf_nl t x hx
 unfold docsL
 rw [hl, docR_all hd _ _ _ (h s (by simp)) fun b hb => by
  obtain ⟨t, ht, rfl⟩ := List.mem_map.1 hb
  exact h t (by simp [ht])]
 simp only [List.nil_append, List.map_cons, joinC_lns, hmap]
theorem allL_snoc (d x : Bs) {l : List Bs} (h : l ≠ []) : allL d (l ++ [x]) = allL d l ++ (10 :: (d ++ 10 :: x)) := by
 cases l with
 | nil => exact absurd rfl h
 | cons y l => simp [allL]
theorem join_lib : ∀ l : List Bs, Lib.join l [10] = joinC 10 l
 | [] => rfl
 | [x] => by simp [Lib.join, joinC, List.intercalate]
 | x :: y :: l => by
  have ih := join_lib (y :: l)
  rw [joinC_cons, ← ih]
  simp [Lib.join, List.intercalate, List.intersperse]
theorem joinC_len {M : Nat} : ∀ l : List Bs, (∀ x ∈ l, x.length ≤ M) → (joinC 10 l).length ≤ l.length * (M + 1)
 | [], _ => by simp [joinC]
 | [x], h => by have := h x (by simp); simp [joinC]; omega
 | x :: y :: l, h => by
  have ih := joinC_len (y :: l) fun z hz => h z (by simp [List.mem_cons.1 hz])
  have hx := h x (by simp)
  rw [joinC_cons, List.length_append, List.length_cons]
  have e : (x :: y :: l).length * (M + 1) = (M + 1) + (y :: l).length * (M + 1) := by rw [List.length_cons (a := x), Nat.add_mul]; omega
  omega
theorem docR_mem : ∀ (l : List Bs) (st : List (List Bs) × List Bs) (P : Bs → Prop), (∀ x ∈ l, P x) → (∀ x ∈ st.2, P x) → (∀ b ∈ st.1, ∀ x ∈ b, P x) → (∀ x ∈ (docR st l).2, P x) ∧ ∀ b ∈ (docR st l).1, ∀ x ∈ b, P x
 | [], st, P, _, h2, h3 => ⟨h2, h3⟩
 | y :: l, st, P, h1, h2, h3 => by
  refine docR_mem l (dstep st y) P (fun x hx => h1 x (by simp [hx])) ?_ ?_
  ·unfold dstep
   split
   ·intro x hx; cases hx
   ·intro x hx
    rcases List.mem_append.1 hx with hx | hx
    ·exact h2 x hx
    ·rw [List.mem_singleton.1 hx]; exact h1 y (by simp)
  ·unfold dstep
   split
   ·intro b hb
    rcases List.mem_append.1 hb with hb | hb
    ·exact h3 b hb
    ·rw [List.mem_singleton.1 hb]; exact h2
   ·exact h3
theorem docR_len : ∀ (l : List Bs) (st : List (List Bs) × List Bs), (docR st l).1.length + (docR st l).2.length ≤ st.1.length + st.2.length + l.length
 | [], st => by simp [docR]
 | y :: l, st => by
  have := docR_len l (dstep st y)
  show (docR (dstep st y) l).1.length + (docR (dstep st y) l).2.length ≤ _
  refine Nat.le_trans this ?_
  unfold dstep
  split <;> simp <;> omega
theorem rowsT_flat (l : List ByteArray) : (rowsT l).flatten = l.map AV.str := by
 induction l with
 | nil => rfl
 | cons s l ih => rw [rowsT, List.map_cons, List.flatten_cons]; show [AV.str s] ++ (rowsT l).flatten = _; rw [ih]; rfl
theorem joinT_a (bs : List Bs) (hN : bs.length ≤ 1000000000) (hlen : (joinC 10 bs).length ≤ 140737488355328) :
  AC Tryz.prog 43 [.lst .any 1 (rowsT (bs.map toB)), .str ⟨#[10]⟩] (.str (toB (joinC 10 bs))) := by
 refine ⟨by kernel_rfl, fun σ w vs hh hr hg => ?_⟩
 have hl : vs.length = 2 := hr.1
 obtain ⟨v1, v2, rfl⟩ : ∃ a b, vs = [a, b] := by
  rcases vs with _ | ⟨a, _ | ⟨b, _ | ⟨d, l⟩⟩⟩ <;> simp at hl
  exact ⟨a, b, rfl⟩
 have h1 : Rel1 σ v1 (.lst .any 1 (rowsT (bs.map toB))) := hr.2 0 v1 _ rfl rfl
 have h2 : Rel1 σ v2 (.str ⟨#[10]⟩) := hr.2 1 v2 _ rfl rfl
 cases h2
 obtain ⟨A, cap, b, o, news, rfl, hcap, hA, _, hnl, hrel, hcell⟩ := lst_cells h1
 have hll : (rowsT (bs.map toB)).length = bs.length := by rw [rowsT_len, List.length_map]
 have hmm : (bs.map toB).map (fun x => x.data.toList) = bs := by rw [List.map_map]; exact (List.map_congr_left fun x _ => toB_list x).trans (List.map_id _)
 cases hb : bs with
 | nil =>
  subst hb
  refine (Tryz.strings_Join_none A cap ⟨#[10]⟩ w).mono ?_
  rintro e w' ⟨rfl, rfl⟩
  exact ⟨σ, _, rfl, Ext.refl _ _, hh, Below.refl _ _, .str _⟩
 | cons y bs' =>
  rw [← hb]
  rw [hll] at hcap hA hnl
  have hne : 0 < bs.length := by rw [hb]; simp
  have := hA hne
  subst this
  rw [rowsT_flat] at hrel
  have hcells : ∀ (j : Nat) x, (bs.map toB)[j]? = some x → w.cell? ⟨b, o + j, none⟩ = some (.string x) := fun j x hx => by
   have hj : j < news.length := by have := (List.getElem?_eq_some_iff.1 hx).1; rw [List.length_map] at this; omega
   have h3 := List.getElem?_eq_getElem hj
   have h4 : Rel1 σ news[j] (.str x) := hrel.2 j _ _ h3 (by rw [List.getElem?_map, hx]; rfl)
   generalize news[j] = u at h3 h4
   cases h4
   exact hh _ _ _ (hcell j _ h3)
  obtain ⟨x, hx⟩ : ∃ x, (bs.map toB)[0]? = some x := ⟨_, List.getElem?_eq_getElem (by simpa using hne)⟩
  have hbk := World.block_lt_of_cell? w _ (hcells 0 x hx)
  have hj : Lib.join ((bs.map toB).map (·.data.toList)) (⟨#[10]⟩ : ByteArray).data.toList = joinC 10 bs := by rw [hmm]; exact join_lib bs
  have hJ := Tryz.strings_Join b o cap (bs.map toB) ⟨#[10]⟩ w hcells hbk (by rw [List.length_map]; omega) (by rw [List.length_map]; omega) (by rw [hj]; omega)
  rw [hj, List.length_map] at hJ
  rw [hll]
  refine hJ.mono ?_
  rintro e w' ⟨rfl, hb⟩
  exact ⟨σ, _, rfl, Ext.refl _ _, fun b q v hv => (hb.cell (p := ⟨b, q, none⟩) (World.block_lt_of_cell? w _ (hh _ _ _ hv))).trans (hh _ _ _ hv), hb, .str _⟩
theorem dash_eq (x : Bs) : decide (toB (tr x) = ⟨#[45, 45, 45]⟩) = dash3 x := by
 have e : (⟨#[45, 45, 45]⟩ : ByteArray) = toB [45, 45, 45] := rfl
 rw [e]
 unfold dash3
 by_cases h : tr x = [45, 45, 45]
 ·rw [h]; rfl
 ·rw [decide_eq_false (fun h2 => h (toB_inj.1 h2))]
  exact (beq_eq_false_iff_ne.2 h).symm
def rowsJ (l : List (List Bs)) : List (List AV) := rowsT ((l.map (joinC 10)).map toB)
theorem rowsJ_len (l : List (List Bs)) : (rowsJ l).length = l.length := by rw [rowsJ, rowsT_len, List.length_map, List.length_map]
theorem rowsJ_snoc (l : List (List Bs)) (b : List Bs) : rowsJ l ++ [[.str (toB (joinC 10 b))]] = rowsJ (l ++ [b]) := by simp [rowsJ, rowsT]
theorem rowsB_snoc (b : List Bs) (x : Bs) : rowsT (b.map toB) ++ [[.str (toB x)]] = rowsT ((b ++ [x]).map toB) := by simp [rowsT]
theorem docs_a (s : ByteArray) (hs : s.size ≤ 1000000) : AC Tryz.prog 19 [.str s] (.lst .any 1 (rowsT ((docsL s.data.toList).map toB))) := by
 have hsp := splitT_a 10 s hs
 have hle := splT_le 10 s
 have hmem := fun x (h : x ∈ splT 10 s) => splT_mem h
 have hP := splT_lns s
 unfold docsL
 rw [← hP]
 clear hP
 generalize splT 10 s = ps at *
 refine kE Tryz.func19 a_yaml_Docs_ok a_yaml_Docs_cb fun E hE => ?_
 refine kW ?_
 refine kQ [.v (.lst .any 1 (rowsT ps))] ?_
 refine kW ?_
 refine AK.loopI (fun i : Nat × (Nat → Nat) => (frOf [(3, .lst (.own 21 (i.2 21)) 1 (rowsJ (docR ([], []) ((ps.take i.1).map fun x => x.data.toList)).1)), (4, .lst (.own 25 (i.2 25)) 1 (rowsT ((docR ([], []) ((ps.take i.1).map fun x => x.data.toList)).2.map toB))), (8, .lst .any 1 (rowsT ps)), (9, .int .i64 (rowsT ps).length), (10, .int .i64 i.1)], ⟨boxOf [], i.2⟩))
  (fun i => i.1 ≤ ps.length) (fun i => ps.length - i.1) (0, fun _ => 0) (Nat.zero_le _) (Weak.intro ⟨⟨_, rfl, .one (.own _ _ _ _)⟩, ⟨_, rfl, .one (.own _ _ _ _)⟩, kI, kI, kI, trivial⟩ trivial rfl rfl) fun ⟨k, r⟩ hk => ?_
 dsimp only at hk
 have hX := docR_len ((ps.take k).map fun x => x.data.toList) ([], [])
 rw [List.length_map, List.length_take] at hX
 have hY := (docR_mem ((ps.take k).map fun x => x.data.toList) ([], []) (fun x => x.length ≤ 1000000) (fun x hx => by
  obtain ⟨y, hy, rfl⟩ := List.mem_map.1 hx
  have := hmem y (List.mem_of_mem_take hy)
  show y.size ≤ _
  omega) (by simp) (by simp)).1
 obtain ⟨a, b, hab⟩ : ∃ a b, docR ([], []) ((ps.take k).map fun x => x.data.toList) = (a, b) := ⟨_, _, rfl⟩
 rw [hab] at hX hY ⊢
 simp only [List.length_nil] at hX hY ⊢
 have hbl : b.length ≤ 1000001 := by omega
 have hjl := joinC_len b hY
 have hJ := joinT_a b (by omega) (by omega)
 refine kW ?_
 refine kC (fun hb => ?_) fun hb => ?_
 ·have hlt : k < ps.length := by simpa [rowsT_len] using hb
  obtain ⟨p, hg⟩ : ∃ x, ps[k]? = some x := ⟨_, List.getElem?_eq_getElem hlt⟩
  have hpz := hmem p (List.mem_of_getElem? hg)
  have hst : docR ([], []) ((ps.take (k + 1)).map fun x => x.data.toList) = dstep (a, b) p.data.toList := by
   rw [List.take_add_one, hg, List.map_append, docR_app, hab]; rfl
  have htr := tr_a p.data.toList (by show p.size ≤ _; omega)
  rw [toB_eta] at htr
  have hd := dash_eq p.data.toList
  have hpe : toB p.data.toList = p := toB_eta p
  refine kW ?_
  refine kP [.c [.str p]] ?_ ?_
  ·((repeat' apply And.intro) <;> first | exact kD | (intro hgd; refine ⟨?_, kG⟩; (repeat' apply And.intro) <;> first | exact kD | skip) | skip)
   ·exact rowsT_at hg
  refine kW ?_
  refine kQ [.v (.str (toB (tr p.data.toList)))] ?_
  refine kW ?_
  rw [hd]
  unfold dstep at hst
  cases hD : dash3 p.data.toList with
  | true =>
   rw [hD, if_pos rfl] at hst
   refine kC (fun hb => ?_) fun hb => ?_
   ·refine kW ?_
    refine kP [.v (.str (toB (joinC 10 b)))] ?_ ?_
    ·((repeat' apply And.intro) <;> first | exact kD | (intro hgd; refine ⟨?_, kG⟩; (repeat' apply And.intro) <;> first | exact kD | skip) | skip)
     all_goals simp only [rowsJ_len, List.length_cons, List.length_nil]
     all_goals omega
    refine kW ?_
    refine AK.exit rfl ?_
    refine kW ?_
    refine AK.lp ⟨(k + 1, _), by dsimp only; omega, Weak.intro ⟨⟨_, rfl, .of_eq ?_⟩, ⟨_, rfl, .one ?_⟩, kI, kI, kU, trivial⟩ trivial rfl rfl, by dsimp only; omega⟩
    ·dsimp only
     rw [hst]
     simp [appTag, appRow, upd_same]
     exact rowsJ_snoc a b
    ·dsimp only
     rw [hst]
     exact .own _ _ _ _
   ·simp at hb
  | false =>
   rw [hD, if_neg (by simp)] at hst
   refine kC (fun hb => ?_) fun hb => ?_
   ·simp at hb
   ·refine kW ?_
    refine kP [] ?_ ?_
    ·((repeat' apply And.intro) <;> first | exact kD | (intro hgd; refine ⟨?_, kG⟩; (repeat' apply And.intro) <;> first | exact kD | skip) | skip)
     all_goals simp only [rowsT_len, List.length_map, List.length_cons, List.length_nil]
     all_goals omega
    refine kW ?_
    refine AK.lp ⟨(k + 1, _), by dsimp only; omega, Weak.intro ⟨⟨_, rfl, .of_eq ?_⟩, ⟨_, rfl, .of_eq ?_⟩, kI, kI, kU, trivial⟩ trivial rfl rfl, by dsimp only; omega⟩
    ·dsimp only
     rw [hst]
     rfl
    ·dsimp only
     rw [hst, ← rowsB_snoc, hpe]
     rfl
 ·have hlt : k = ps.length := by have : ps.length ≤ k := by simpa [rowsT_len] using hb
                                 omega
  subst hlt
  rw [List.take_length] at hab
  refine AK.exit rfl ?_
  refine kW ?_
  refine kP [.v (.str (toB (joinC 10 b)))] ?_ ?_
  ·((repeat' apply And.intro) <;> first | exact kD | (intro hgd; refine ⟨?_, kG⟩; (repeat' apply And.intro) <;> first | exact kD | skip) | skip)
   all_goals simp only [rowsJ_len, List.length_cons, List.length_nil]
   all_goals omega
  refine kW ?_
  refine AK.ret ⟨_, rfl, ?_⟩
  rw [hab]
  exact congrArg (AV.lst .any 1) (rowsJ_snoc a b)
def noteB (n : Nat) : Bs := ([[], [10], [35, 32, 120, 58, 32, 91, 10], [32, 32, 32, 32, 32, 35, 32, 121, 10], [32, 32, 10]] : List Bs).getD (n % 5) []
def endB (n : Nat) : Bs := ([[], [32, 32], [32, 35, 32, 122]] : List Bs).getD (n % 3) []
theorem mod5 (n : Nat) : n % 5 = 0 ∨ n % 5 = 1 ∨ n % 5 = 2 ∨ n % 5 = 3 ∨ n % 5 = 4 := by omega
theorem mod3 (n : Nat) : n % 3 = 0 ∨ n % 3 = 1 ∨ n % 3 = 2 := by omega
theorem noteB_ls (n : Nat) : ∃ L : List Bs, noteB n = L.flatMap (fun x => x ++ [10]) ∧ (∀ x ∈ L, (10 : UInt8) ∉ x) ∧ linesL L = some [] := by
 unfold noteB
 rcases mod5 n with h | h | h | h | h <;> rw [h]
 ·exact ⟨[], rfl, by simp, rfl⟩
 ·exact ⟨[[]], rfl, by simp, by kernel_rfl⟩
 ·exact ⟨[[35, 32, 120, 58, 32, 91]], rfl, by decide, by kernel_rfl⟩
 ·exact ⟨[[32, 32, 32, 32, 32, 35, 32, 121]], rfl, by decide, by kernel_rfl⟩
 ·exact ⟨[[32, 32]], rfl, by decide, by kernel_rfl⟩
theorem endB_ok (n : Nat) : (∃ j, TailOk (endB n) j) ∧ (10 : UInt8) ∉ endB n := by
 unfold endB
 rcases mod3 n with h | h | h <;> rw [h]
 ·exact ⟨⟨_, TailOk.nil⟩, by decide⟩
 ·exact ⟨⟨_, TailOk.blanks⟩, by decide⟩
 ·exact ⟨⟨_, TailOk.note _⟩, by decide⟩
theorem noteB_len (n : Nat) : (noteB n).length ≤ 9 := by
 unfold noteB
 rcases mod5 n with h | h | h | h | h <;> rw [h] <;> decide
theorem endB_len (n : Nat) : (endB n).length ≤ 4 := by
 unfold endB
 rcases mod3 n with h | h | h <;> rw [h] <;> decide
def nline (o : Option Nat) (x : Bs) : Bs := match o with
 | some n => noteB n ++ (x ++ endB n ++ [10])
 | none => x ++ [10]
def noted (ns : List Nat) (xs : List Bs) : Nat → Bs
 | 0 => []
 | k + 1 => noted ns xs k ++ (match xs[k]? with
  | some x => nline ns[k]? x
  | none => [])
theorem noted_at (ns : List Nat) {xs : List Bs} {k : Nat} {x : Bs} (h : xs[k]? = some x) : noted ns xs (k + 1) = noted ns xs k ++ nline ns[k]? x := by rw [noted, h]
theorem noted_ls (ns : List Nat) {ls : List (Nat × Bs)} (h : ∀ x ∈ ls, LnOk x) : ∀ k, k ≤ ls.length → ∃ L : List Bs, noted ns (ls.map padL) k = L.flatMap (fun x => x ++ [10]) ∧ (∀ x ∈ L, (10 : UInt8) ∉ x) ∧ linesL L = some (ls.take k)
 | 0, _ => ⟨[], rfl, by simp, rfl⟩
 | k + 1, hk => by
  obtain ⟨L, e1, e2, e3⟩ := noted_ls ns h k (by omega)
  obtain ⟨x, hx⟩ : ∃ x, ls[k]? = some x := ⟨_, List.getElem?_eq_getElem (by omega)⟩
  have hl := h x (List.mem_of_getElem? hx)
  rw [noted_at ns (x := padL x) (by rw [List.getElem?_map, hx]; rfl), e1, List.take_add_one, hx]
  cases ns[k]? with
  | none =>
   refine ⟨L ++ [padL x], by simp [nline], fun y hy => ?_, ?_⟩
   ·rcases List.mem_append.1 hy with hy | hy
    ·exact e2 y hy
    ·rw [List.mem_singleton.1 hy]; exact pad_nl hl
   ·have h1 := hl.one [] 0 TailOk.nil
    rw [List.append_nil] at h1
    rw [linesL_app, e3, linesL_one, show oneLine (padL x) = some (some x) from h1]
    rfl
  | some n =>
   obtain ⟨N, n1, n2, n3⟩ := noteB_ls n
   obtain ⟨⟨j, ht⟩, n4⟩ := endB_ok n
   refine ⟨L ++ (N ++ [padL x ++ endB n]), by simp [nline, n1], fun y hy => ?_, ?_⟩
   ·rcases List.mem_append.1 hy with hy | hy
    ·exact e2 y hy
    ·rcases List.mem_append.1 hy with hy | hy
     ·exact n2 y hy
     ·rw [List.mem_singleton.1 hy]
      intro hm
      rcases List.mem_append.1 hm with hm | hm
      ·exact pad_nl hl hm
      ·exact n4 hm
   ·rw [linesL_app, e3, linesL_app, n3, linesL_one, show oneLine (padL x ++ endB n) = some (some x) from hl.one _ j ht]
    simp
theorem txt_cut {ls : List (Nat × Bs)} (hne : ls ≠ []) : txt ls = joinC 10 (ls.map padL) ++ [10] := by
 rw [txt_join, joinC_app (by simpa using hne) (by simp)]
 rfl
theorem noted_parse {v : V} (hf : Fit v) (hc : v.checkC = 0) (hz : (v.emit wordB prB).size ≤ 65536) (ns : List Nat) {s : ByteArray} (hs : s.size ≤ 65536) (h : s.data.toList = noted ns ((emL v).map padL) (emL v).length) : parseL s = (v, 0) := by
 obtain ⟨L, e1, e2, e3⟩ := noted_ls ns (emL_ok hf) _ (Nat.le_refl _)
 rw [List.take_length] at e3
 refine parse_same hf hc hz hs ?_
 rw [splT_join (l := L ++ [[]]) (by simp) (fun t ht => by
  rcases List.mem_append.1 ht with ht | ht
  ·exact e2 t ht
  ·rw [List.mem_singleton.1 ht]; simp) (by rw [h, e1, joinC_txt]), linesL_app, e3]
 show (match some (emL v), linesL [[]] with | some x, some y => some (x ++ y) | _, _ => none) = _
 rw [show linesL [[]] = some [] from rfl]
 simp
theorem emL_ne {v : V} (hf : Fit v) : emL v ≠ [] := by
 unfold emL
 cases hx : v.leaf with
 | true => simp
 | false =>
  rw [if_neg (by simp)]
  cases hf with
  | leaf hl2 _ => rw [hl2] at hx; cases hx
  | @list l hne hall =>
   obtain ⟨t, q, e, _⟩ := headL hne 0 []
   rw [linV_eq]
   intro h
   rw [show linL (vList l).l 0 = linL l 0 from rfl] at h
   rw [(List.append_eq_nil_iff.1 h).1] at e
   cases e
  | @map m hne hri hall =>
   obtain ⟨t, q, e, _⟩ := headM hne (fun p hp hl => (hall p hp).leafOk hl) 0 []
   rw [linV_eq]
   intro h
   rw [show linM (vMap m).m 0 = linM m 0 from rfl] at h
   rw [(List.append_eq_nil_iff.1 h).2] at e
   cases e
theorem tr_pre : ∀ {x r : Bs}, tr x = r → ∃ k, x = r ++ List.replicate k 32 := by
 intro x
 have key : ∀ y : Bs, ∃ k, y = List.replicate k 32 ++ y.dropWhile (· == 32) := by
  intro y
  induction y with
  | nil => exact ⟨0, rfl⟩
  | cons c y ih =>
   rw [List.dropWhile_cons]
   by_cases hc : c = 32
   ·obtain ⟨k, e⟩ := ih
    subst hc
    rw [if_pos (by decide)]
    refine ⟨k + 1, ?_⟩
    rw [List.replicate_succ, List.cons_append, ← e]
   ·rw [if_neg (by simpa using hc)]
    exact ⟨0, rfl⟩
 rintro r rfl
 obtain ⟨k, e⟩ := key x.reverse
 refine ⟨k, ?_⟩
 have e2 := congrArg List.reverse e
 rw [List.reverse_reverse, List.reverse_append, List.reverse_replicate] at e2
 exact e2
theorem dash_pad {x : Nat × Bs} (h : LnOk x) : dash3 (padL x) = false := by
 cases hd : dash3 (padL x) with
 | false => rfl
 | true =>
  exfalso
  obtain ⟨k, e⟩ := tr_pre (eq_of_beq hd)
  unfold padL at e
  obtain ⟨i, t⟩ := x
  cases i with
  | zero => exact h.dash _ e
  | succ i => rw [List.replicate_succ] at e; injection e with e _; cases e
theorem docs_two {v u : V} (hv : Fit v) (hu : Fit u) : docsL ((v.emit wordB prB).data.toList ++ ([45, 45, 45, 10] ++ (u.emit wordB prB).data.toList)) = [joinC 10 ((emL v).map padL), (u.emit wordB prB).data.toList] := by
 have hpads : ∀ w : V, Fit w → ∀ x ∈ (emL w).map padL, (10 : UInt8) ∉ x ∧ dash3 x = false := fun w hw x hx => by
  obtain ⟨y, hy, rfl⟩ := List.mem_map.1 hx
  exact ⟨pad_nl (emL_ok hw y hy), dash_pad (emL_ok hw y hy)⟩
 have e : (v.emit wordB prB).data.toList ++ ([45, 45, 45, 10] ++ (u.emit wordB prB).data.toList) = allL [45, 45, 45] [joinC 10 ((emL v).map padL), (u.emit wordB prB).data.toList] := by
  rw [emL_txt v, txt_cut (emL_ne hv)]
  simp [allL]
 rw [e]
 refine docs_all (by decide) (by decide) (by simp) fun s hs x hx => ?_
 rcases List.mem_cons.1 hs with rfl | hs
 ·rw [lns_join (by simpa using emL_ne hv) fun y hy => (hpads v hv y hy).1] at hx
  exact (hpads v hv x hx).2
 ·rw [List.mem_singleton.1 hs, emL_txt u, txt_join, lns_join (by simp) fun y hy => by
   rcases List.mem_append.1 hy with hy | hy
   ·exact (hpads u hu y hy).1
   ·rw [List.mem_singleton.1 hy]; simp] at hx
  rcases List.mem_append.1 hx with hx | hx
  ·exact (hpads u hu x hx).2
  ·rw [List.mem_singleton.1 hx]; decide
theorem cut_parse {v : V} (hf : Fit v) (hc : v.checkC = 0) (hz : (v.emit wordB prB).size ≤ 65536) : parseL (toB (joinC 10 ((emL v).map padL))) = (v, 0) := by
 have hl : (v.emit wordB prB).size = (joinC 10 ((emL v).map padL)).length + 1 := by
  show (v.emit wordB prB).data.toList.length = _
  rw [emL_txt v, txt_cut (emL_ne hf)]
  simp
 refine parse_same hf hc hz (by rw [toB_size]; omega) ?_
 rw [splT_join (l := (emL v).map padL) (by simpa using emL_ne hf) (fun t ht => by
  obtain ⟨y, hy, rfl⟩ := List.mem_map.1 ht
  exact pad_nl (emL_ok hf y hy)) rfl]
 exact linesL_pads (emL_ok hf)
theorem right2_a (v u : V) (hv : v.sb) (hu : u.sb) : AC Tryz.prog 12 [.lst .any 6 [[.int .i64 (v).kind, .bool (v).b, .int .i64 (v).n, .str (v).s, .lst .any 6 (rowsV (v).l), .lst .any 7 (rowsM (v).m)], [.int .i64 (u).kind, .bool (u).b, .int .i64 (u).n, .str (u).s, .lst .any 6 (rowsV (u).l), .lst .any 7 (rowsM (u).m)]]] (.bool (rightB [v, u])) := by
 have h := right_a [v, u] (by simp) (fun x hx => by
  rcases List.mem_cons.1 hx with rfl | hx
  ·exact hv
  ·rw [List.mem_singleton.1 hx]; exact hu)
 rw [show rowsV [v, u] = [[.int .i64 (v).kind, .bool (v).b, .int .i64 (v).n, .str (v).s, .lst .any 6 (rowsV (v).l), .lst .any 7 (rowsM (v).m)], [.int .i64 (u).kind, .bool (u).b, .int .i64 (u).n, .str (u).s, .lst .any 6 (rowsV (u).l), .lst .any 7 (rowsM (u).m)]] by rw [rowsV, rowsV, rowsV, cellsV_eq, cellsV_eq]] at h
 exact h
theorem yamlApart_a (v u : V) (hv : v.sb) (hu : u.sb) (nv : Nb v) (nu : Nb u) : AC Tryz.prog 8 [.agg [.int .i64 (v).kind, .bool (v).b, .int .i64 (v).n, .str (v).s, .lst .any 6 (rowsV (v).l), .lst .any 7 (rowsM (v).m)], .agg [.int .i64 (u).kind, .bool (u).b, .int .i64 (u).n, .str (u).s, .lst .any 6 (rowsV (u).l), .lst .any 7 (rowsM (u).m)]] (.bool true) := by
 have hA := awake_a
 have hR := right2_a v u hv hu
 refine kE Tryz.func8 a_law05_YamlApart_ok a_law05_YamlApart_cb fun E hE => ?_
 refine kW ?_
 cases hr : rightB [v, u] with
 | false =>
  rw [hr] at hR
  refine kP [.v (.bool false), .v (.str ⟨#[]⟩), .v (.str ⟨#[]⟩)] ?_ ?_
  ·((repeat' apply And.intro) <;> first | exact kD | (intro hgd; refine ⟨?_, kG⟩; (repeat' apply And.intro) <;> first | exact kD | skip) | skip)
   all_goals first | (intro h; cases h) | skip
  refine kC (fun hb => ?_) fun hb => ?_
  ·refine kW ?_
   refine kQ [.v (.bool true)] ?_
   refine kW ?_
   refine AK.ret ⟨_, rfl, ?_⟩
   rfl
  ·simp at hb
 | true =>
  rw [hr] at hR
  have hr1 : rightB [v] = true ∧ rightB [u] = true := by
   unfold rightB at hr ⊢
   simp only [List.all_cons, List.all_nil, Bool.and_true, Bool.and_eq_true] at hr ⊢
   exact hr
  obtain ⟨hG1, hc1, hw1, hs1⟩ := right1_facts hr1.1 nv
  obtain ⟨hG2, hc2, hw2, hs2⟩ := right1_facts hr1.2 nu
  have hbd1 := emit_bound v hG1 hw1 hs1
  have hbd2 := emit_bound u hG2 hw2 hs2
  have hE1 := emit_a v hG1 hs1 (by omega)
  have hE2 := emit_a u hG2 hs2 (by omega)
  have hRe1 := refEmit_a v hG1 hw1 hs1
  have hRe2 := refEmit_a u hG2 hw2 hs2
  have hf1 := fit_all v.size v (Nat.le_refl _) hG1.1 hG1.2
  have hf2 := fit_all u.size u (Nat.le_refl _) hG2.1 hG2.2
  have hPe1 := fun h => parse_emit hf1 hc1 h
  have hPe2 := fun h => parse_emit hf2 hc2 h
  have hPc := fun h => cut_parse hf1 hc1 h
  have hDs := docs_two hf1 hf2
  have hlen : (joinC 10 ((emL v).map padL)).length < (v.emit wordB prB).size := by
   show _ < (v.emit wordB prB).data.toList.length
   rw [emL_txt v, txt_cut (emL_ne hf1)]
   simp
  have hS := refSame_a v.size v u (Nat.le_refl _) (by omega)
  have hS1 := refSame_a v.size v v (Nat.le_refl _) (by omega)
  have hS2 := refSame_a u.size u u (Nat.le_refl _) (by omega)
  rw [V.sameB_true.2 rfl] at hS1 hS2
  generalize joinC 10 ((emL v).map padL) = d at *
  have heq : v = u → v.emit wordB prB = u.emit wordB prB := fun h => by rw [h]
  generalize v.emit wordB prB = s at *
  generalize u.emit wordB prB = t at *
  clear hf1 hf2 hG1 hG2
  refine kQ [.v (.bool true), .v (.str s), .v (.str t)] ?_
  refine kC (fun hb => ?_) fun hb => ?_
  ·refine kW ?_
   refine kQ [.v (.bool true)] ?_
   refine kW ?_
   refine AK.ret ⟨_, rfl, ?_⟩
   rfl
  have hz : s.size + t.size ≤ 60000 := by
   have : ¬ (s.size : Int) + (t.size : Int) > 60000 := by
    rw [wrap_in (by omega) (by omega)] at hb
    simpa using hb
   omega
  clear hb
  have hPs := hPe1 (by omega)
  have hPt := hPe2 (by omega)
  have hPd := hPc (by omega)
  have hpd := parse_a (toB d)
  have hpt := parse_a t
  rw [hPd] at hpd
  rw [hPt] at hpt
  have hsame : decide (s = t) = v.sameB u := by
   cases hvu : v.sameB u with
   | true => exact decide_eq_true (heq (V.sameB_true.1 hvu))
   | false =>
    refine decide_eq_false fun h => V.sameB_false.1 hvu ?_
    rw [h, hPt] at hPs
    exact (congrArg Prod.fst hPs).symm
  have z4 : (⟨#[45, 45, 45, 10]⟩ : ByteArray).size = 4 := rfl
  have hz1 : (s ++ (⟨#[45, 45, 45, 10]⟩ : ByteArray)).size = s.size + 4 := by rw [ByteArray.size_append]; rfl
  have hz2 : (s ++ (⟨#[45, 45, 45, 10]⟩ : ByteArray) ++ t).size = s.size + 4 + t.size := by rw [ByteArray.size_append, hz1]
  have hD := docs_a (s ++ (⟨#[45, 45, 45, 10]⟩ : ByteArray) ++ t) (by omega)
  rw [show (s ++ (⟨#[45, 45, 45, 10]⟩ : ByteArray) ++ t).data.toList = s.data.toList ++ ([45, 45, 45, 10] ++ t.data.toList) by simp, hDs] at hD
  have hrow : rowsT (([d, t.data.toList]).map toB) = [[.str (toB d)], [.str t]] := rfl
  rw [hrow] at hD
  clear hPe1 hPe2 hPc hPs hPt hPd hDs heq
  refine kW ?_
  refine kQ [.v (.str s), .v (.str t)] ?_
  refine kW ?_
  refine kP [.v (.lst .any 1 [[.str (toB d)], [.str t]])] ?_ ?_
  ·((repeat' apply And.intro) <;> first | exact kD | (intro hgd; refine ⟨?_, kG⟩; (repeat' apply And.intro) <;> first | exact kD | skip) | skip)
   all_goals first | omega | (simp only [ByteArray.size_append, z4]; omega)
  refine kW ?_
  refine kQ [.v (.bool (v.sameB u))] ?_
  refine kC (fun hb => ?_) fun hb => ?_
  ·rw [hsame] at hb
   simp at hb
  clear hb hsame
  refine kW ?_
  refine kP [.c [.str (toB d)], .v (.tup [.agg [.int .i64 (v).kind, .bool (v).b, .int .i64 (v).n, .str (v).s, .lst .any 6 (rowsV (v).l), .lst .any 7 (rowsM (v).m)], .int .i64 0])] ?_ ?_
  ·((repeat' apply And.intro) <;> first | exact kD | (intro hgd; refine ⟨?_, kG⟩; (repeat' apply And.intro) <;> first | exact kD | skip) | skip)
   all_goals first | rfl | skip
  refine kW ?_
  refine kP [.c [.str t], .v (.tup [.agg [.int .i64 (u).kind, .bool (u).b, .int .i64 (u).n, .str (u).s, .lst .any 6 (rowsV (u).l), .lst .any 7 (rowsM (u).m)], .int .i64 0])] ?_ ?_
  ·((repeat' apply And.intro) <;> first | exact kD | (intro hgd; refine ⟨?_, kG⟩; (repeat' apply And.intro) <;> first | exact kD | skip) | skip)
   all_goals first | rfl | skip
  refine kW ?_
  refine kQ [.v (.bool true), .v (.bool true), .v (.bool true)] ?_
  refine kW ?_
  refine AK.ret ⟨_, rfl, ?_⟩
  simp
  rfl
end Go.Proofs.YtgekcnpfflhpkaaGreatDoor
namespace Go.Proofs.YtgekcnpfflhpkaaGreatDoor
set_option maxRecDepth 100000
def b_stringslite_HasSuffix : ACode :=
 .seq (.reg [⟨none, .mov 4 (.k (.bool false))⟩]) (.seq (.reg [⟨none, .mov 5 (.s 0)⟩, ⟨none, .len 6 true (.s 5)⟩, ⟨none, .mov 7 (.s 1)⟩, ⟨none, .len 8 true (.s 7)⟩, ⟨none, .bin 9 .geq false (.s 6) (.s 8)⟩, ⟨none, .mov 10 (.s 9)⟩, ⟨some (10, true), .mov 11 (.s 0)⟩, ⟨some (10, true), .mov 12 (.s 0)⟩, ⟨some (10, true), .len 13 true (.s 12)⟩, ⟨some (10, true), .mov 14 (.s 1)⟩, ⟨some (10, true), .len 15 true (.s 14)⟩, ⟨some (10, true), .bin 16 .sub false (.s 13) (.s 15)⟩, ⟨some (10, true), .sub 17 true 0 (.s 11) (some (.s 16)) none⟩, ⟨some (10, true), .mov 18 (.s 1)⟩, ⟨some (10, true), .bin 19 .eql false (.s 17) (.s 18)⟩, ⟨none, .pick 20 (.s 10) (.s 19) (.k (.bool false))⟩, ⟨none, .mov 4 (.s 20)⟩]) .ret)
def a_stringslite_HasSuffix : AFn := ⟨2, 21, b_stringslite_HasSuffix, [.tmp 4]⟩
theorem a_stringslite_HasSuffix_ok : fnAF Tryz.prog [] Tryz.f68 = some a_stringslite_HasSuffix := by kernel_rfl
theorem a_stringslite_HasSuffix_cb : callable Tryz.prog 68 = true := by kernel_rfl
end Go.Proofs.YtgekcnpfflhpkaaGreatDoor
namespace Go.Proofs.YtgekcnpfflhpkaaGreatDoor
open Go.RowKit
def rowsU (l : List Nat) : List (List AV) := l.map fun (n : Nat) => [.int .u8 n]
theorem rowsU_len (l : List Nat) : (rowsU l).length = l.length := List.length_map _
theorem rowsU_at {l : List Nat} {k : Nat} {n : Nat} (h : l[k]? = some n) : (rowsU l)[k]? = some [.int .u8 n] := by simp [rowsU, h]
theorem row5 (n : Nat) : ([[.str ⟨#[]⟩], [.str ⟨#[10]⟩], [.str ⟨#[35, 32, 120, 58, 32, 91, 10]⟩], [.str ⟨#[32, 32, 32, 32, 32, 35, 32, 121, 10]⟩], [.str ⟨#[32, 32, 10]⟩]] : List (List AV))[((n : Int).tmod 5).toNat]? = some [.str (toB (noteB n))] := by
 have e : ((n : Int).tmod 5).toNat = n % 5 := rfl
 rw [e]
 unfold noteB
 rcases mod5 n with h | h | h | h | h <;> rw [h] <;> rfl
theorem row3 (n : Nat) : ([[.str ⟨#[]⟩], [.str ⟨#[32, 32]⟩], [.str ⟨#[32, 35, 32, 122]⟩]] : List (List AV))[((n : Int).tmod 3).toNat]? = some [.str (toB (endB n))] := by
 have e : ((n : Int).tmod 3).toNat = n % 3 := rfl
 rw [e]
 unfold endB
 rcases mod3 n with h | h | h <;> rw [h] <;> rfl
theorem noted_len (ns : List Nat) (xs : List Bs) : ∀ k, k ≤ xs.length → (noted ns xs k).length ≤ 13 * min k ns.length + ((xs.take k).flatMap fun x => x ++ [10]).length
 | 0, _ => by simp [noted]
 | k + 1, h => by
  have ih := noted_len ns xs k (by omega)
  obtain ⟨x, hx⟩ : ∃ x, xs[k]? = some x := ⟨_, List.getElem?_eq_getElem (by omega)⟩
  rw [noted_at ns hx, List.take_add_one, hx, List.length_append, List.flatMap_append, List.length_append]
  have e : (List.flatMap (fun x => x ++ [(10 : UInt8)]) (some x).toList).length = x.length + 1 := by simp
  rw [e]
  unfold nline
  by_cases hk : k < ns.length
  ·rw [List.getElem?_eq_getElem hk]
   have h1 := noteB_len ns[k]
   have h2 := endB_len ns[k]
   simp only [List.length_append, List.length_singleton]
   omega
  ·rw [List.getElem?_eq_none (by omega)]
   simp only [List.length_append, List.length_singleton]
   omega
theorem noted_all (ns : List Nat) (ls : List (Nat × Bs)) {k : Nat} (h : k ≤ ls.length) : (noted ns (ls.map padL) k).length ≤ 13 * ns.length + (txt ls).length := by
 have h1 := noted_len ns (ls.map padL) k (by rw [List.length_map]; exact h)
 have h2 : txt ls = (ls.map padL).flatMap fun x => x ++ [10] := by unfold txt; rw [List.flatMap_map]
 have h3 : (((ls.map padL).take k).flatMap fun x => x ++ [10]).length ≤ (txt ls).length := by
  have e : txt ls = (((ls.map padL).take k).flatMap fun x => x ++ [10]) ++ (((ls.map padL).drop k).flatMap fun x => x ++ [10]) := by
   rw [h2, ← List.flatMap_append, List.take_append_drop]
  rw [e, List.length_append]
  omega
 omega
theorem sufIn_a (l : Bs) (hl : l.length ≤ 1000000) : AC Tryz.prog 68 [.str (toB (l ++ [10])), .str ⟨#[10]⟩] (.bool true) := by
 have hz : (toB (l ++ [10])).size = l.length + 1 := by rw [toB_size]; simp
 have z1 : (⟨#[10]⟩ : ByteArray).size = 1 := rfl
 have hw : IntKind.i64.wrap (((toB (l ++ [10])).size : Int) - ((⟨#[10]⟩ : ByteArray).size : Int)) = (l.length : Int) := by rw [hz, z1, wrap_in (by omega) (by omega)]; omega
 have hd : (toB (l ++ [10])).extract ((l.length : Nat) : Int).toNat (((toB (l ++ [10])).size : Nat) : Int).toNat = ⟨#[10]⟩ := by
  rw [toB_fromI, List.drop_left' rfl]
  rfl
 refine kE Tryz.func68 a_stringslite_HasSuffix_ok a_stringslite_HasSuffix_cb fun E hE => ?_
 refine kW ?_
 refine kP [] ?_ ?_
 ·((repeat' apply And.intro) <;> first | exact kD | (intro hgd; refine ⟨?_, kG⟩; (repeat' apply And.intro) <;> first | exact kD | skip) | skip)
  all_goals (try rw [hw]; omega)
 rw [hw, hd]
 refine kW ?_
 refine AK.ret ⟨_, rfl, ?_⟩
 simp [hz, z1]
 exact congrArg AV.bool (decide_eq_true (by omega))
theorem trimSIn_a (l : Bs) (hl : l.length ≤ 1000000) : AC Tryz.prog 32 [.str (toB (l ++ [10])), .str ⟨#[10]⟩] (.str (toB l)) := by
 have h := sufIn_a l hl
 have hz : (toB (l ++ [10])).size = l.length + 1 := by rw [toB_size]; simp
 have z1 : (⟨#[10]⟩ : ByteArray).size = 1 := rfl
 have hw : IntKind.i64.wrap (((toB (l ++ [10])).size : Int) - ((⟨#[10]⟩ : ByteArray).size : Int)) = (l.length : Int) := by rw [hz, z1, wrap_in (by omega) (by omega)]; omega
 have hd : (toB (l ++ [10])).extract (0 : Int).toNat ((l.length : Nat) : Int).toNat = toB l := by
  rw [toB_toI _ _ (by simp), List.take_left' rfl]
 refine kE Tryz.func32 a_stringslite_TrimSuffix_ok a_stringslite_TrimSuffix_cb fun E hE => ?_
 refine kW ?_
 refine kQ [.v (.bool true)] ?_
 refine kC (fun hb => ?_) fun hb => ?_
 ·refine kW ?_
  refine kP [] ?_ ?_
  ·((repeat' apply And.intro) <;> first | exact kD | (intro hgd; refine ⟨?_, kG⟩; (repeat' apply And.intro) <;> first | exact kD | skip) | skip)
   all_goals (rw [hw]; omega)
  rw [hw, hd]
  refine kW ?_
  refine AK.ret ⟨_, rfl, ?_⟩
  rfl
 ·simp at hb
theorem trimS_a (l : Bs) (hl : l.length ≤ 1000000) : AC Tryz.prog 15 [.str (toB (l ++ [10])), .str ⟨#[10]⟩] (.str (toB l)) := by
 have h := trimSIn_a l hl
 refine kE Tryz.func15 a_strings_TrimSuffix_ok a_strings_TrimSuffix_cb fun E hE => ?_
 refine kW ?_
 refine kQ [.v (.str (toB l))] ?_
 refine kW ?_
 refine AK.ret ⟨_, rfl, ?_⟩
 rfl
theorem yamlNotes_a (v : V) (ns : List Nat) (hsb : v.sb) (hn : Nb v) (hu : ∀ n ∈ ns, n < 256) : AC Tryz.prog 4 [.agg [.int .i64 (v).kind, .bool (v).b, .int .i64 (v).n, .str (v).s, .lst .any 6 (rowsV (v).l), .lst .any 7 (rowsM (v).m)], .lst .any 1 (rowsU ns)] (.bool true) := by
 have hA := awake_a
 have hR := right1_a v hsb
 have hF := fun h => right1_facts (v := v) h hn
 have hul := rowsU_len ns
 refine kE Tryz.func4 a_law05_YamlNotes_ok a_law05_YamlNotes_cb fun E hE => ?_
 refine kW ?_
 refine kQ [.v (.bool (rightB [v]))] ?_
 refine kC (fun hb => ?_) fun hb => ?_
 ·refine kW ?_
  refine kQ [.v (.bool true)] ?_
  refine kW ?_
  refine AK.ret ⟨_, rfl, ?_⟩
  rfl
 have hb2 : rightB [v] = true ∧ ns.length ≤ 100 := by
  rw [hul] at hb
  have h : rightB [v] = true ∧ (ns.length : Int) ≤ 100 := by simpa using hb
  exact ⟨h.1, by omega⟩
 obtain ⟨hG, hc, hw, hs⟩ := hF hb2.1
 have hnl := hb2.2
 clear hF hR hb hb2
 have hRe := refEmit_a v hG hw hs
 have hf := fit_all v.size v (Nat.le_refl _) hG.1 hG.2
 have hPe : (v.emit wordB prB).size ≤ 65536 → ∀ s : ByteArray, s.size ≤ 65536 → s.data.toList = noted ns ((emL v).map padL) (emL v).length → parseL s = (v, 0) := fun hz s h1 h2 => noted_parse hf hc hz ns h1 h2
 have hS := refSame_a v.size v v (Nat.le_refl _) (by omega)
 rw [V.sameB_true.2 rfl] at hS
 have htx := emL_txt v
 have hct := txt_cut (emL_ne hf)
 have hok := emL_ok hf
 have hlne := emL_ne hf
 generalize v.emit wordB prB = s at *
 generalize emL v = ls at *
 have hsz : s.size = (txt ls).length := by show s.data.toList.length = _; rw [htx]
 have hse : s = toB (joinC 10 (ls.map padL) ++ [10]) := by
  rw [← toB_eta s, htx, hct]
 refine kW ?_
 refine kQ [.v (.str s)] ?_
 refine kW ?_
 refine kC (fun hb => ?_) fun hb => ?_
 ·refine kW ?_
  refine kQ [.v (.bool true)] ?_
  refine kW ?_
  refine AK.ret ⟨_, rfl, ?_⟩
  rfl
 have hz : s.size ≤ 20000 := by
  have : ¬ (s.size : Int) > 20000 := by simpa using hb
  omega
 clear hb
 have hjl : (joinC 10 (ls.map padL)).length + 1 = s.size := by rw [hsz, hct]; simp
 have hT := trimS_a (joinC 10 (ls.map padL)) (by omega)
 rw [← hse] at hT
 have hSp := splitT_a 10 (toB (joinC 10 (ls.map padL))) (by rw [toB_size]; omega)
 have hps : (splT 10 (toB (joinC 10 (ls.map padL)))).map (fun x => x.data.toList) = ls.map padL := by
  exact splT_join (by simpa using hlne) (fun t ht => by
   obtain ⟨y, hy, rfl⟩ := List.mem_map.1 ht
   exact pad_nl (hok y hy)) rfl
 have hpb := splT_le 10 (toB (joinC 10 (ls.map padL)))
 rw [toB_size] at hpb
 generalize splT 10 (toB (joinC 10 (ls.map padL))) = ps at *
 have hpl : ps.length = ls.length := by have := congrArg List.length hps; simpa using this
 refine kW ?_
 refine kQ [.v (.str (toB (joinC 10 (ls.map padL)))), .v (.lst .any 1 (rowsT ps))] ?_
 refine kW ?_
 refine AK.loopI (fun k : Nat => (frOf [(1, .lst .any 1 (rowsU ns)), (2, .ptr 2 0), (6, .str (toB (noted ns (ls.map padL) k))), (29, .lst .any 1 (rowsT ps)), (30, .int .i64 (rowsT ps).length), (31, .int .i64 k)], ⟨boxOf [(2, [.int .i64 (v).kind, .bool (v).b, .int .i64 (v).n, .str (v).s, .lst .any 6 (rowsV (v).l), .lst .any 7 (rowsM (v).m)], false)], fun _ => 0⟩)) (fun k => k ≤ ls.length) (fun k => ls.length - k) 0 (by omega) (Weak.intro ⟨kI, kI, kI, kI, kI, kI, trivial⟩ ⟨kJ, trivial⟩ rfl rfl) fun k hk => ?_
 have hnk := noted_all ns ls hk
 have hnz : (toB (noted ns (ls.map padL) k)).size ≤ 22000 := by rw [toB_size]; omega
 refine kW ?_
 refine kC (fun hb => ?_) fun hb => ?_
 ·have hlt : k < ps.length := by simpa [rowsT_len] using hb
  obtain ⟨p, hg⟩ : ∃ x, ps[k]? = some x := ⟨_, List.getElem?_eq_getElem hlt⟩
  have hpe : (ls.map padL)[k]? = some p.data.toList := by rw [← hps, List.getElem?_map, hg]; rfl
  have hpz : p.size ≤ 20000 := by
   have h1 : (p.data.toList).length ≤ (noted [] (ls.map padL) (k + 1)).length := by rw [noted_at [] hpe]; simp [nline]; omega
   have h2 := noted_all [] ls (k := k + 1) (by omega)
   simp only [List.length_nil] at h2
   show p.data.toList.length ≤ _
   omega
  have hstep := noted_at ns hpe
  have hz1 : ∀ c : ByteArray, (toB (noted ns (ls.map padL) k) ++ c).size = (toB (noted ns (ls.map padL) k)).size + c.size := fun c => ByteArray.size_append
  have hz2 : ∀ c : ByteArray, (p ++ c).size = p.size + c.size := fun c => ByteArray.size_append
  have z10 : (⟨#[10]⟩ : ByteArray).size = 1 := rfl
  refine kW ?_
  refine kP [.c [.str p]] ?_ ?_
  ·((repeat' apply And.intro) <;> first | exact kD | (intro hgd; refine ⟨?_, kG⟩; (repeat' apply And.intro) <;> first | exact kD | skip) | skip)
   ·exact rowsT_at hg
  refine kW ?_
  refine kC (fun hb => ?_) fun hb => ?_
  ·have hkn : k < ns.length := by
    have : (k : Int) < (rowsU ns).length := by simpa using hb
    omega
   obtain ⟨n, hn2⟩ : ∃ n, ns[k]? = some n := ⟨_, List.getElem?_eq_getElem hkn⟩
   have h5 := row5 n
   have h3 := row3 n
   have hn0 : 0 ≤ (n : Int).tmod 5 := Int.natCast_nonneg (n % 5)
   have hn1 : 0 ≤ (n : Int).tmod 3 := Int.natCast_nonneg (n % 3)
   have z1 : (toB (noteB n)).size ≤ 9 := noteB_len n
   have z2 : (toB (endB n)).size ≤ 4 := endB_len n
   rw [hn2] at hstep
   refine kW ?_
   refine kP [.c [.int .u8 n], .c [.str (toB (noteB n))]] ?_ ?_
   ·((repeat' apply And.intro) <;> first | exact kD | (intro hgd; refine ⟨?_, kG⟩; (repeat' apply And.intro) <;> first | exact kD | skip) | skip)
    all_goals first | exact rowsU_at hn2 | exact h5 | exact hn0 | (rw [hz1]; omega) | skip
   refine kW ?_
   refine kP [.c [.int .u8 n], .c [.str (toB (endB n))]] ?_ ?_
   ·((repeat' apply And.intro) <;> first | exact kD | (intro hgd; refine ⟨?_, kG⟩; (repeat' apply And.intro) <;> first | exact kD | skip) | skip)
    all_goals first | exact rowsU_at hn2 | exact h3 | exact hn1 | (rw [hz2]; omega) | skip
   refine kW ?_
   refine kP [] ?_ ?_
   ·(repeat' apply And.intro)
    all_goals first | (simp only [ByteArray.size_append, z10]; omega) | exact trivial
   refine kW ?_
   refine AK.lp ⟨k + 1, by omega, Weak.intro ⟨kI, kI, ⟨_, rfl, .of_eq ?_⟩, kI, kI, kU, trivial⟩ ⟨kJ, trivial⟩ rfl rfl, by omega⟩
   rw [hstep]
   exact congrArg AV.str (ba_ext (by simp [nline, toB_list]))
  ·have hkn : ns.length ≤ k := by
    have : (rowsU ns).length ≤ k := by simpa using hb
    omega
   rw [List.getElem?_eq_none hkn] at hstep
   refine kW ?_
   refine kP [] ?_ ?_
   ·(repeat' apply And.intro)
    all_goals first | (simp only [ByteArray.size_append, z10]; omega) | exact trivial
   refine kW ?_
   refine AK.lp ⟨k + 1, by omega, Weak.intro ⟨kI, kI, ⟨_, rfl, .of_eq ?_⟩, kI, kI, kU, trivial⟩ ⟨kJ, trivial⟩ rfl rfl, by omega⟩
   rw [hstep]
   exact congrArg AV.str (ba_ext (by simp [nline, toB_list]))
 ·have hkk : k = ls.length := by
   have : ps.length ≤ k := by simpa [rowsT_len] using hb
   omega
  subst hkk
  have hP := hPe (by omega) (toB (noted ns (ls.map padL) ls.length)) (by omega) rfl
  have hpa := parse_a (toB (noted ns (ls.map padL) ls.length))
  rw [hP] at hpa
  refine AK.exit rfl ?_
  refine kW ?_
  refine kQ [.v (.tup [.agg [.int .i64 (v).kind, .bool (v).b, .int .i64 (v).n, .str (v).s, .lst .any 6 (rowsV (v).l), .lst .any 7 (rowsM (v).m)], .int .i64 0])] ?_
  refine kW ?_
  refine kQ [.v (.bool true), .v (.bool true)] ?_
  refine kW ?_
  refine AK.ret ⟨_, rfl, ?_⟩
  simp
  rfl
end Go.Proofs.YtgekcnpfflhpkaaGreatDoor
namespace Go.Proofs.YtgekcnpfflhpkaaGreatDoor
set_option maxRecDepth 100000
def b_law05_YamlDocs : ACode :=
 .seq (.reg [⟨none, .mov 4 (.k (.bool false))⟩]) (.seq (.seq (.reg [⟨none, .mov 12 (.s 0)⟩, ⟨none, .len 13 false (.s 12)⟩, ⟨none, .bin 14 .eql false (.s 13) (.k (.int .i64 0))⟩, ⟨none, .mov 15 (.s 14)⟩, ⟨some (15, false), .mov 16 (.s 0)⟩, ⟨some (15, false), .len 17 false (.s 16)⟩, ⟨some (15, false), .bin 18 .gtr false (.s 17) (.k (.int .i64 20))⟩, ⟨none, .pick 19 (.s 15) (.k (.bool true)) (.s 18)⟩]) (.cond (.s 19) (.seq (.reg [⟨none, .call (some 20) (.k (.fn 11 [])) []⟩, ⟨none, .mov 4 (.s 20)⟩]) .ret) .skip)) (.seq (.reg [⟨none, .mov 5 (.k (.str ⟨#[]⟩))⟩]) (.seq (.seq (.reg [⟨none, .mov 21 (.s 0)⟩, ⟨none, .len 22 false (.s 21)⟩, ⟨none, .mov 23 (.k (.int .i64 0))⟩]) (.block 0 (.loop (.seq (.reg [⟨none, .bin 24 .lss false (.s 23) (.s 22)⟩]) (.seq (.cond (.s 24) .skip (.exit 0)) (.seq (.block 1 (.seq (.reg [⟨none, .mov 25 (.s 23)⟩, ⟨none, .idx 26 1 (.s 21) (.s 23)⟩, ⟨none, .ld 27 1 false (.s 26)⟩, ⟨none, .mov 6 (.s 25)⟩, ⟨none, .mov 7 (.s 27)⟩]) (.seq (.seq (.reg [⟨none, .mov 28 (.s 7)⟩, ⟨none, .call (some 29) (.k (.fn 14 [])) [.s 28, .k (.str ⟨#[10]⟩)]⟩, ⟨none, .len 30 false (.s 29)⟩, ⟨none, .mov 31 (.k (.int .i64 0))⟩]) (.block 2 (.loop (.seq (.reg [⟨none, .bin 32 .lss false (.s 31) (.s 30)⟩]) (.seq (.cond (.s 32) .skip (.exit 2)) (.seq (.block 3 (.seq (.reg [⟨none, .idx 33 1 (.s 29) (.s 31)⟩, ⟨none, .ld 34 1 false (.s 33)⟩, ⟨none, .mov 9 (.s 34)⟩]) (.seq (.reg [⟨none, .mov 35 (.s 7)⟩, ⟨none, .len 36 true (.s 35)⟩, ⟨none, .bin 37 .gtr false (.s 36) (.k (.int .i64 500))⟩, ⟨none, .mov 38 (.s 37)⟩, ⟨some (38, false), .mov 39 (.s 9)⟩, ⟨some (38, false), .call (some 40) (.k (.fn 18 [])) [.s 39, .k (.str ⟨#[32]⟩)]⟩, ⟨some (38, false), .bin 41 .eql false (.s 40) (.k (.str ⟨#[45, 45, 45]⟩))⟩, ⟨none, .pick 42 (.s 38) (.k (.bool true)) (.s 41)⟩]) (.cond (.s 42) (.seq (.reg [⟨none, .call (some 43) (.k (.fn 11 [])) []⟩, ⟨none, .mov 4 (.s 43)⟩]) .ret) .skip)))) (.reg [⟨none, .bin 44 .add false (.s 31) (.k (.int .i64 1))⟩, ⟨none, .mov 31 (.s 44)⟩]))))))) (.seq (.seq (.reg [⟨none, .mov 45 (.s 6)⟩, ⟨none, .bin 46 .gtr false (.s 45) (.k (.int .i64 0))⟩]) (.cond (.s 46) (.reg [⟨none, .mov 47 (.s 5)⟩, ⟨none, .mov 48 (.s 1)⟩, ⟨none, .bin 49 .rem false (.s 48) (.k (.int .u8 3))⟩, ⟨none, .conv 50 .i64 (.s 49)⟩, ⟨none, .call (some 51) (.k (.fn 17 [])) [.k (.str ⟨#[32]⟩), .s 50]⟩, ⟨none, .bin 52 .add false (.k (.str ⟨#[10, 45, 45, 45]⟩)) (.s 51)⟩, ⟨none, .bin 53 .add false (.s 52) (.k (.str ⟨#[10]⟩))⟩, ⟨none, .bin 54 .add false (.s 47) (.s 53)⟩, ⟨none, .mov 5 (.s 54)⟩]) .skip)) (.reg [⟨none, .mov 55 (.s 5)⟩, ⟨none, .mov 56 (.s 7)⟩, ⟨none, .bin 57 .add false (.s 55) (.s 56)⟩, ⟨none, .mov 5 (.s 57)⟩]))))) (.reg [⟨none, .bin 58 .add false (.s 23) (.k (.int .i64 1))⟩, ⟨none, .mov 23 (.s 58)⟩]))))))) (.seq (.reg [⟨none, .mov 59 (.s 5)⟩, ⟨none, .call (some 60) (.k (.fn 19 [])) [.s 59]⟩, ⟨none, .mov 10 (.s 60)⟩]) (.seq (.seq (.reg [⟨none, .mov 61 (.s 10)⟩, ⟨none, .len 62 false (.s 61)⟩, ⟨none, .mov 63 (.s 0)⟩, ⟨none, .len 64 false (.s 63)⟩, ⟨none, .bin 65 .neq false (.s 62) (.s 64)⟩]) (.cond (.s 65) (.seq (.reg [⟨none, .mov 4 (.k (.bool false))⟩]) .ret) .skip)) (.seq (.seq (.reg [⟨none, .mov 66 (.s 0)⟩, ⟨none, .len 67 false (.s 66)⟩, ⟨none, .mov 68 (.k (.int .i64 0))⟩]) (.block 4 (.loop (.seq (.reg [⟨none, .bin 69 .lss false (.s 68) (.s 67)⟩]) (.seq (.cond (.s 69) .skip (.exit 4)) (.seq (.block 5 (.seq (.reg [⟨none, .mov 70 (.s 68)⟩, ⟨none, .mov 11 (.s 70)⟩]) (.seq (.reg [⟨none, .mov 71 (.s 10)⟩, ⟨none, .mov 72 (.s 11)⟩, ⟨none, .idx 73 1 (.s 71) (.s 72)⟩, ⟨none, .ld 74 1 false (.s 73)⟩, ⟨none, .mov 75 (.s 0)⟩, ⟨none, .mov 76 (.s 11)⟩, ⟨none, .idx 77 1 (.s 75) (.s 76)⟩, ⟨none, .ld 78 1 false (.s 77)⟩, ⟨none, .bin 79 .neq false (.s 74) (.s 78)⟩]) (.cond (.s 79) (.seq (.reg [⟨none, .mov 4 (.k (.bool false))⟩]) .ret) .skip)))) (.reg [⟨none, .bin 80 .add false (.s 68) (.k (.int .i64 1))⟩, ⟨none, .mov 68 (.s 80)⟩]))))))) (.seq (.reg [⟨none, .call (some 81) (.k (.fn 11 [])) []⟩, ⟨none, .mov 4 (.s 81)⟩]) .ret)))))))
def a_law05_YamlDocs : AFn := ⟨2, 82, b_law05_YamlDocs, [.tmp 4]⟩
theorem a_law05_YamlDocs_ok : fnAF Tryz.prog [] Tryz.f6 = some a_law05_YamlDocs := by kernel_rfl
theorem a_law05_YamlDocs_cb : callable Tryz.prog 6 = true := by kernel_rfl
end Go.Proofs.YtgekcnpfflhpkaaGreatDoor
namespace Go.Proofs.YtgekcnpfflhpkaaGreatDoor
open Go.RowKit
theorem repB_a (k : Nat) (hk : k ≤ 1000000000000) : AC Tryz.prog 17 [.str ⟨#[32]⟩, .int .i64 k] (.str (padB k)) := by
 refine ⟨by kernel_rfl, fun σ w vs hh hr hg => ?_⟩
 have hl : vs.length = 2 := hr.1
 obtain ⟨v1, v2, rfl⟩ : ∃ a b, vs = [a, b] := by
  rcases vs with _ | ⟨a, _ | ⟨b, _ | ⟨d, l⟩⟩⟩ <;> simp at hl
  exact ⟨a, b, rfl⟩
 have h1 : Rel1 σ v1 (.str ⟨#[32]⟩) := hr.2 0 v1 _ rfl rfl
 have h2 : Rel1 σ v2 (.int .i64 k) := hr.2 1 v2 _ rfl rfl
 cases h1; cases h2
 refine (repeat_any k hk w).mono ?_
 rintro e w' ⟨rfl, hb⟩
 exact ⟨σ, _, rfl, Ext.refl _ _, fun b q v hv => (hb.cell (p := ⟨b, q, none⟩) (World.block_lt_of_cell? w _ (hh _ _ _ hv))).trans (hh _ _ _ hv), hb, .str _⟩
def dashL (m : Nat) : Bs := [45, 45, 45] ++ List.replicate m 32
theorem dashL_ok (n : Nat) : dash3 (dashL (n % 3)) = true ∧ (10 : UInt8) ∉ dashL (n % 3) ∧ (dashL (n % 3)).length ≤ 5 := by
 have h : n % 3 = 0 ∨ n % 3 = 1 ∨ n % 3 = 2 := by omega
 rcases h with h | h | h <;> rw [h] <;> decide
theorem allL_len {d : Bs} (hd : d.length ≤ 5) : ∀ ss : List Bs, (∀ s ∈ ss, s.length ≤ 500) → (allL d ss).length ≤ ss.length * 507
 | [], _ => by simp [allL]
 | x :: l, h => by
  have key : ∀ l : List Bs, (∀ s ∈ l, s.length ≤ 500) → (l.flatMap fun t => (10 : UInt8) :: (d ++ 10 :: t)).length ≤ l.length * 507 := by
   intro l
   induction l with
   | nil => intro _; simp
   | cons y l ih =>
    intro h
    have h1 := ih fun s hs => h s (by simp [hs])
    have h2 := h y (by simp)
    rw [List.flatMap_cons, List.length_append]
    simp only [List.length_cons, List.length_append]
    omega
  have h1 := key l fun s hs => h s (by simp [hs])
  have h2 := h x (by simp)
  rw [allL, List.length_append]
  simp only [List.length_cons]
  omega
theorem yamlDocs_a (hA : AC Tryz.prog 11 [] (.bool true)) (l : List ByteArray) (n : Nat) (hz : ∀ s ∈ l, s.size ≤ 4000000000) : AC Tryz.prog 6 [.lst .any 1 (rowsT l), .int .u8 n] (.bool true) := by
 have hll := rowsT_len l
 obtain ⟨hd1, hd2, hd3⟩ := dashL_ok n
 have hwm : IntKind.i64.wrap ((n : Int).tmod 3) = ((n % 3 : Nat) : Int) := by
  show IntKind.i64.wrap ((n % 3 : Nat) : Int) = _
  exact wrap_in (by omega) (by omega)
 have hRp := repB_a (n % 3) (by omega)
 have hpad : (padB (n % 3)).data.toList = List.replicate (n % 3) 32 := by simp [padB]
 have hpz : (padB (n % 3)).size ≤ 2 := by rw [padB_size]; omega
 refine kE Tryz.func6 a_law05_YamlDocs_ok a_law05_YamlDocs_cb fun E hE => ?_
 refine kW ?_
 refine kQ [] ?_
 refine kC (fun hb => ?_) fun hb => ?_
 ·refine kW ?_
  refine kQ [.v (.bool true)] ?_
  refine kW ?_
  refine AK.ret ⟨_, rfl, ?_⟩
  rfl
 have hb2 : 0 < l.length ∧ l.length ≤ 20 := by
  rw [hll] at hb
  simp only [Bool.or_eq_false_iff, decide_eq_false_iff_not] at hb
  omega
 clear hb
 obtain ⟨hne, h20⟩ := hb2
 refine kW ?_
 refine AK.loopI (fun k : Nat => (frOf [(0, .lst .any 1 (rowsT l)), (1, .int .u8 n), (5, .str (toB (allL (dashL (n % 3)) ((l.take k).map fun s => s.data.toList)))), (21, .lst .any 1 (rowsT l)), (22, .int .i64 (rowsT l).length), (23, .int .i64 k)], ⟨boxOf [], fun _ => 0⟩))
  (fun k => k ≤ l.length ∧ ∀ s ∈ l.take k, s.size ≤ 500 ∧ ∀ x ∈ lnsOf s.data.toList, dash3 x = false) (fun k => l.length - k) 0 ⟨by omega, by simp⟩ (Weak.intro ⟨kI, kI, kI, kI, kI, kI, trivial⟩ trivial rfl rfl) fun k ⟨hk, hok⟩ => ?_
 have hal := allL_len hd3 ((l.take k).map fun s => s.data.toList) (fun s hs => by
  obtain ⟨t, ht, rfl⟩ := List.mem_map.1 hs
  exact (hok t ht).1)
 rw [List.length_map, List.length_take] at hal
 have hsl : (toB (allL (dashL (n % 3)) ((l.take k).map fun s => s.data.toList))).size ≤ 10140 := by rw [toB_size]; omega
 refine kW ?_
 refine kC (fun hb => ?_) fun hb => ?_
 ·have hlt : k < l.length := by simpa [rowsT_len] using hb
  obtain ⟨s, hg⟩ : ∃ x, l[k]? = some x := ⟨_, List.getElem?_eq_getElem hlt⟩
  have hsz := hz s (List.mem_of_getElem? hg)
  have hsp := splitT_b 10 s hsz
  have hpl := splT_len 10 s
  have hle := splT_le 10 s
  have hmem := fun x (h : x ∈ splT 10 s) => splT_mem h
  have hlns := splT_lns s
  have hstep : (l.take (k + 1)).map (fun s => s.data.toList) = (l.take k).map (fun s => s.data.toList) ++ [s.data.toList] := by
   rw [List.take_add_one, hg, List.map_append]; rfl
  generalize splT 10 s = ps at *
  generalize hX : allL (dashL (n % 3)) ((l.take k).map fun s => s.data.toList) = X at *
  refine kW ?_
  refine kP [.c [.str s]] ?_ ?_
  ·((repeat' apply And.intro) <;> first | exact kD | (intro hgd; refine ⟨?_, kG⟩; (repeat' apply And.intro) <;> first | exact kD | skip) | skip)
   ·exact rowsT_at hg
  refine kW ?_
  refine kQ [.v (.lst .any 1 (rowsT ps))] ?_
  refine kW ?_
  refine AK.loopI (fun j : Nat => (frOf [(0, .lst .any 1 (rowsT l)), (1, .int .u8 n), (5, .str (toB X)), (6, .int .i64 k), (7, .str s), (21, .lst .any 1 (rowsT l)), (22, .int .i64 (rowsT l).length), (23, .int .i64 k), (29, .lst .any 1 (rowsT ps)), (30, .int .i64 (rowsT ps).length), (31, .int .i64 j)], ⟨boxOf [], fun _ => 0⟩))
   (fun j => j ≤ ps.length ∧ (0 < j → s.size ≤ 500) ∧ ∀ x ∈ ps.take j, dash3 x.data.toList = false) (fun j => ps.length - j) 0 ⟨by omega, by omega, by simp⟩ (Weak.intro ⟨kI, kI, kI, kI, kI, kI, kI, kI, kI, kI, kI, trivial⟩ trivial rfl rfl) fun j ⟨hj, h500, hdj⟩ => ?_
  refine kW ?_
  refine kC (fun hb => ?_) fun hb => ?_
  ·have hltj : j < ps.length := by simpa [rowsT_len] using hb
   obtain ⟨p, hgp⟩ : ∃ x, ps[j]? = some x := ⟨_, List.getElem?_eq_getElem hltj⟩
   have hpz := hmem p (List.mem_of_getElem? hgp)
   refine kW ?_
   refine kP [.c [.str p]] ?_ ?_
   ·((repeat' apply And.intro) <;> first | exact kD | (intro hgd; refine ⟨?_, kG⟩; (repeat' apply And.intro) <;> first | exact kD | skip) | skip)
    ·exact rowsT_at hgp
   refine kW ?_
   by_cases h5 : s.size ≤ 500
   ·have htr := tr_a p.data.toList (by show p.size ≤ _; omega)
    rw [toB_eta] at htr
    have hde := dash_eq p.data.toList
    refine kQ [.v (.str (toB (tr p.data.toList)))] ?_
    rw [hde]
    refine kC (fun hb => ?_) fun hb => ?_
    ·refine kW ?_
     refine kQ [.v (.bool true)] ?_
     refine kW ?_
     refine AK.ret ⟨_, rfl, ?_⟩
     rfl
    ·have hdp : dash3 p.data.toList = false := by
      simp only [Bool.or_eq_false_iff] at hb
      exact hb.2
     refine kW ?_
     refine AK.lp ⟨j + 1, ⟨by omega, fun _ => h5, fun x hx => ?_⟩, Weak.intro ⟨kI, kI, kI, kI, kI, kI, kI, kI, kI, kI, kU, trivial⟩ trivial rfl rfl, by omega⟩
     rw [List.take_add_one, hgp] at hx
     rcases List.mem_append.1 hx with hx | hx
     ·exact hdj x hx
     ·rw [List.mem_singleton.1 hx]; exact hdp
   ·refine kP [.v (.str ⟨#[]⟩)] ?_ ?_
    ·((repeat' apply And.intro) <;> first | exact kD | (intro hgd; refine ⟨?_, kG⟩; (repeat' apply And.intro) <;> first | exact kD | skip) | skip)
     all_goals (have h6 : ¬ (s.size : Int) > 500 := by simpa [gd] using hgd)
     all_goals omega
    refine kC (fun hb => ?_) fun hb => ?_
    ·refine kW ?_
     refine kQ [.v (.bool true)] ?_
     refine kW ?_
     refine AK.ret ⟨_, rfl, ?_⟩
     rfl
    ·exfalso
     simp only [Bool.or_eq_false_iff, decide_eq_false_iff_not] at hb
     have := hb.1
     omega
  ·have hjj : j = ps.length := by
    have : ps.length ≤ j := by simpa [rowsT_len] using hb
    omega
   subst hjj
   have h5 : s.size ≤ 500 := h500 (by omega)
   rw [List.take_length] at hdj
   have hnew : ∀ t ∈ l.take (k + 1), t.size ≤ 500 ∧ ∀ x ∈ lnsOf t.data.toList, dash3 x = false := fun t ht => by
    rw [List.take_add_one, hg] at ht
    rcases List.mem_append.1 ht with ht | ht
    ·exact hok t ht
    ·rw [List.mem_singleton.1 ht]
     refine ⟨h5, fun x hx => ?_⟩
     rw [← hlns] at hx
     obtain ⟨y, hy, rfl⟩ := List.mem_map.1 hx
     exact hdj y hy
   refine AK.exit rfl ?_
   refine kW ?_
   refine kC (fun hb => ?_) fun hb => ?_
   ·have hk0 : 0 < k := by
     have : (k : Int) > 0 := by simpa using hb
     omega
    have hna : allL (dashL (n % 3)) ((l.take (k + 1)).map fun s => s.data.toList) = X ++ (10 :: (dashL (n % 3) ++ 10 :: s.data.toList)) := by
     rw [hstep, allL_snoc, hX]
     have : (l.take k).length = k := by rw [List.length_take]; omega
     intro h
     have := congrArg List.length h
     rw [List.length_map] at this
     simp only [List.length_nil] at this
     omega
    have z4 : (⟨#[10, 45, 45, 45]⟩ : ByteArray).size = 4 := rfl
    have z1 : (⟨#[10]⟩ : ByteArray).size = 1 := rfl
    have hcat : toB X ++ ((⟨#[10, 45, 45, 45]⟩ : ByteArray) ++ padB (n % 3) ++ (⟨#[10]⟩ : ByteArray)) ++ s = toB (X ++ (10 :: (dashL (n % 3) ++ 10 :: s.data.toList))) := by
     rw [← toB_eta (padB (n % 3)), hpad]
     conv => lhs; rw [← toB_eta s]
     show toB (X ++ (([10, 45, 45, 45] ++ List.replicate (n % 3) 32) ++ [10]) ++ s.data.toList) = _
     rw [dashL]
     simp
    refine kW ?_
    refine kP [.v (.str (padB (n % 3)))] ?_ ?_
    ·((repeat' apply And.intro) <;> first | exact kD | (intro hgd; refine ⟨?_, kG⟩; (repeat' apply And.intro) <;> first | exact kD | skip) | skip)
     all_goals first | (rw [hwm]; exact hRp) | (simp only [ByteArray.size_append, z4, z1]; omega) | skip
    refine kW ?_
    refine kP [] ?_ ?_
    ·(repeat' apply And.intro)
     all_goals first | (simp only [ByteArray.size_append, z4, z1]; omega) | exact trivial
    refine kW ?_
    refine AK.lp ⟨k + 1, ⟨by omega, hnew⟩, Weak.intro ⟨kI, kI, ⟨_, rfl, .of_eq ?_⟩, kI, kI, kU, trivial⟩ trivial rfl rfl, by omega⟩
    rw [hna]
    exact congrArg AV.str hcat
   ·have hk0 : k = 0 := by
     have : ¬ (k : Int) > 0 := by simpa using hb
     omega
    subst hk0
    have hx0 : X = [] := by rw [← hX]; rfl
    subst hx0
    have hna : allL (dashL (n % 3)) ((l.take (0 + 1)).map fun s => s.data.toList) = s.data.toList := by
     rw [hstep]
     simp [allL]
    refine kW ?_
    refine kP [] ?_ ?_
    ·(repeat' apply And.intro)
     all_goals first | (simp only [ByteArray.size_append, show (toB []).size = 0 from rfl]; omega) | exact trivial
    refine kW ?_
    refine AK.lp ⟨0 + 1, ⟨by omega, hnew⟩, Weak.intro ⟨kI, kI, ⟨_, rfl, .of_eq ?_⟩, kI, kI, kU, trivial⟩ trivial rfl rfl, by omega⟩
    rw [hna]
    refine congrArg AV.str ?_
    rw [← toB_eta s]
    rfl
 ·have hkk : k = l.length := by
   have : l.length ≤ k := by simpa [rowsT_len] using hb
   omega
  subst hkk
  rw [List.take_length] at hok hsl ⊢
  have hmm : (l.map fun s => s.data.toList).map toB = l := by rw [List.map_map]; exact (List.map_congr_left fun x _ => toB_eta x).trans (List.map_id _)
  have hD := docs_a (toB (allL (dashL (n % 3)) (l.map fun s => s.data.toList))) (by omega)
  rw [toB_list, docs_all hd1 hd2 (fun h => by rw [List.map_eq_nil_iff] at h; rw [h] at hne; cases hne) (fun s hs => by
   obtain ⟨t, ht, rfl⟩ := List.mem_map.1 hs
   exact (hok t ht).2), hmm] at hD
  clear hal
  refine AK.exit rfl ?_
  refine kW ?_
  refine kQ [.v (.lst .any 1 (rowsT l))] ?_
  refine kW ?_
  refine kC (fun hb => ?_) fun hb => ?_
  ·simp at hb
  refine kW ?_
  refine AK.loopI (fun k : Nat => (frOf [(0, .lst .any 1 (rowsT l)), (10, .lst .any 1 (rowsT l)), (67, .int .i64 (rowsT l).length), (68, .int .i64 k)], ⟨boxOf [], fun _ => 0⟩)) (fun k => k ≤ l.length) (fun k => l.length - k) 0 (by omega) (Weak.intro ⟨kI, kI, kI, kI, trivial⟩ trivial rfl rfl) fun k hk => ?_
  refine kW ?_
  refine kC (fun hb => ?_) fun hb => ?_
  ·have hlt : k < l.length := by simpa [rowsT_len] using hb
   obtain ⟨s, hg⟩ : ∃ x, l[k]? = some x := ⟨_, List.getElem?_eq_getElem hlt⟩
   refine kW ?_
   refine kP [.c [.str s], .c [.str s]] ?_ ?_
   ·((repeat' apply And.intro) <;> first | exact kD | (intro hgd; refine ⟨?_, kG⟩; (repeat' apply And.intro) <;> first | exact kD | skip) | skip)
    all_goals exact rowsT_at hg
   refine kC (fun hb => ?_) fun hb => ?_
   ·simp at hb
   ·refine kW ?_
    exact AK.lp ⟨k + 1, by omega, Weak.intro ⟨kI, kI, kI, kU, trivial⟩ trivial rfl rfl, by omega⟩
  ·refine AK.exit rfl ?_
   refine kW ?_
   refine kQ [.v (.bool true)] ?_
   refine kW ?_
   refine AK.ret ⟨_, rfl, ?_⟩
   rfl
theorem rep_a (s : ByteArray) (k : Nat) (h0 : 0 < s.size) (hz : s.size * k ≤ 140737488355328) (hk : k ≤ 1000000) : AC Tryz.prog 17 [.str s, .int .i64 k] (.str ⟨(Lib.repeatL s.data.toList k).toArray⟩) := by
 refine ⟨by kernel_rfl, fun σ w vs hh hr hg => ?_⟩
 obtain ⟨v1, v2, rfl⟩ : ∃ a b, vs = [a, b] := by
  have hl : vs.length = 2 := hr.1
  rcases vs with _ | ⟨a, _ | ⟨b, _ | ⟨c, l⟩⟩⟩ <;> simp at hl
  exact ⟨a, b, rfl⟩
 have h1 : Rel1 σ v1 (.str s) := hr.2 0 v1 _ rfl rfl
 have h2 : Rel1 σ v2 (.int .i64 k) := hr.2 1 v2 _ rfl rfl
 cases h1
 cases h2
 have fin : ∀ w' : World, Below w.heap.size w w' → Holds σ w' := fun w' hb b q v hv => (hb.cell (p := ⟨b, q, none⟩) (World.block_lt_of_cell? w _ (hh _ _ _ hv))).trans (hh _ _ _ hv)
 rcases k with _ | _ | k
 ·refine (Tryz.strings_Repeat_zero s w).mono ?_
  rintro e w' ⟨rfl, rfl⟩
  exact ⟨σ, _, rfl, Ext.refl _ _, hh, Below.refl _ _, Rel1.str _⟩
 ·refine (Tryz.strings_Repeat_one s w).mono ?_
  rintro e w' ⟨rfl, rfl⟩
  refine ⟨σ, _, rfl, Ext.refl _ _, hh, Below.refl _ _, ?_⟩
  have e : (⟨(Lib.repeatL s.data.toList (0 + 1)).toArray⟩ : ByteArray) = s := ba_ext (by show (s.data.toList ++ []) = _; simp)
  rw [e]
  exact Rel1.str _
 ·refine (Tryz.strings_Repeat_main s (k + 1 + 1) w (by omega) (by omega) hz h0).mono ?_
  rintro e w' ⟨rfl, hb⟩
  exact ⟨σ, _, rfl, Ext.refl _ _, fin w' hb, hb, Rel1.str _⟩
theorem repL_len (l : Bs) : ∀ k, (Lib.repeatL l k).length = l.length * k
 | 0 => rfl
 | k + 1 => by
  show (l ++ Lib.repeatL l k).length = _
  rw [List.length_append, repL_len l k, Nat.mul_succ]
  omega
theorem rep_size (l : Bs) (k : Nat) : (⟨(Lib.repeatL l k).toArray⟩ : ByteArray).size = l.length * k := repL_len l k
def nestO (b : Bool) : Bs := if b = true then [123, 97, 58, 32] else [91]
def nestC (b : Bool) : Bs := if b = true then [125] else [93]
def nestS (b : Bool) (k : Nat) : ByteArray := ⟨(Lib.repeatL (nestO b) k).toArray⟩ ++ ⟨#[49]⟩ ++ ⟨(Lib.repeatL (nestC b) k).toArray⟩
def nestV (b : Bool) : Nat → V
 | 0 => V.int 1
 | k + 1 => if b = true then vMap [(⟨#[97]⟩, nestV b k)] else vList [nestV b k]
set_option maxHeartbeats 4000000 in
set_option maxRecDepth 100000 in
theorem nest_v (b : Bool) (k : Nat) (hk : k < 40) : parseL (nestS b k) = (if 15 < k then V.null else nestV b k, if 15 < k then 5 else 0) := by
 have : k = 0 ∨ k = 1 ∨ k = 2 ∨ k = 3 ∨ k = 4 ∨ k = 5 ∨ k = 6 ∨ k = 7 ∨ k = 8 ∨ k = 9 ∨ k = 10 ∨ k = 11 ∨ k = 12 ∨ k = 13 ∨ k = 14 ∨ k = 15 ∨ k = 16 ∨ k = 17 ∨ k = 18 ∨ k = 19 ∨ k = 20 ∨ k = 21 ∨ k = 22 ∨ k = 23 ∨ k = 24 ∨ k = 25 ∨ k = 26 ∨ k = 27 ∨ k = 28 ∨ k = 29 ∨ k = 30 ∨ k = 31 ∨ k = 32 ∨ k = 33 ∨ k = 34 ∨ k = 35 ∨ k = 36 ∨ k = 37 ∨ k = 38 ∨ k = 39 := by omega
 cases b
 ·rcases this with rfl | rfl | rfl | rfl | rfl | rfl | rfl | rfl | rfl | rfl | rfl | rfl | rfl | rfl | rfl | rfl | rfl | rfl | rfl | rfl | rfl | rfl | rfl | rfl | rfl | rfl | rfl | rfl | rfl | rfl | rfl | rfl | rfl | rfl | rfl | rfl | rfl | rfl | rfl | rfl
  all_goals (show _ = _; kernel_rfl)
 ·rcases this with rfl | rfl | rfl | rfl | rfl | rfl | rfl | rfl | rfl | rfl | rfl | rfl | rfl | rfl | rfl | rfl | rfl | rfl | rfl | rfl | rfl | rfl | rfl | rfl | rfl | rfl | rfl | rfl | rfl | rfl | rfl | rfl | rfl | rfl | rfl | rfl | rfl | rfl | rfl | rfl
  all_goals (show _ = _; kernel_rfl)
end Go.Proofs.YtgekcnpfflhpkaaGreatDoor
namespace Go.Proofs.YtgekcnpfflhpkaaGreatDoor
set_option maxRecDepth 100000
def b_law05_YamlNests : ACode :=
 .seq (.reg [⟨none, .mov 4 (.k (.bool false))⟩]) (.seq (.reg [⟨none, .mov 11 (.s 0)⟩, ⟨none, .bin 12 .rem false (.s 11) (.k (.int .u8 40))⟩, ⟨none, .conv 13 .i64 (.s 12)⟩, ⟨none, .mov 5 (.s 13)⟩]) (.seq (.reg [⟨none, .mov 6 (.k (.str ⟨#[91]⟩))⟩, ⟨none, .mov 7 (.k (.str ⟨#[93]⟩))⟩]) (.seq (.seq (.reg [⟨none, .mov 14 (.s 1)⟩]) (.cond (.s 14) (.reg [⟨none, .mov 6 (.k (.str ⟨#[123, 97, 58, 32]⟩))⟩, ⟨none, .mov 7 (.k (.str ⟨#[125]⟩))⟩]) .skip)) (.seq (.reg [⟨none, .mov 15 (.s 6)⟩, ⟨none, .mov 16 (.s 5)⟩, ⟨none, .call (some 17) (.k (.fn 17 [])) [.s 15, .s 16]⟩, ⟨none, .bin 18 .add false (.s 17) (.k (.str ⟨#[49]⟩))⟩, ⟨none, .mov 19 (.s 7)⟩, ⟨none, .mov 20 (.s 5)⟩, ⟨none, .call (some 21) (.k (.fn 17 [])) [.s 19, .s 20]⟩, ⟨none, .bin 22 .add false (.s 18) (.s 21)⟩, ⟨none, .mov 8 (.s 22)⟩]) (.seq (.reg [⟨none, .mov 24 (.s 8)⟩, ⟨none, .call (some 25) (.k (.fn 9 [])) [.s 24]⟩, ⟨none, .mov 23 (.s 25)⟩, ⟨none, .ext 26 0 (.s 23)⟩, ⟨none, .ext 27 1 (.s 23)⟩, ⟨none, .alloc 9 [.int .i64 0, .bool false, .int .i64 0, .str ⟨#[]⟩, .lst .nil 6 [], .lst .nil 7 []]⟩, ⟨none, .st 6 (.s 9) (.s 26)⟩, ⟨none, .mov 10 (.s 27)⟩]) (.seq (.seq (.reg [⟨none, .mov 28 (.s 5)⟩, ⟨none, .bin 29 .add false (.s 28) (.k (.int .i64 1))⟩, ⟨none, .bin 30 .gtr false (.s 29) (.k (.int .i64 16))⟩]) (.cond (.s 30) (.seq (.reg [⟨none, .call (some 31) (.k (.fn 11 [])) []⟩, ⟨none, .mov 32 (.s 31)⟩, ⟨some (32, true), .mov 33 (.s 10)⟩, ⟨some (32, true), .bin 34 .eql false (.s 33) (.k (.int .i64 5))⟩, ⟨none, .pick 35 (.s 32) (.s 34) (.k (.bool false))⟩, ⟨none, .mov 36 (.s 35)⟩, ⟨some (36, true), .off 37 0 (.s 9)⟩, ⟨some (36, true), .ld 38 1 false (.s 37)⟩, ⟨some (36, true), .bin 39 .eql false (.s 38) (.k (.int .i64 0))⟩, ⟨none, .pick 40 (.s 36) (.s 39) (.k (.bool false))⟩, ⟨none, .mov 4 (.s 40)⟩]) .ret) .skip)) (.seq (.seq (.reg [⟨none, .mov 41 (.s 5)⟩, ⟨none, .mov 42 (.k (.int .i64 0))⟩]) (.block 0 (.loop (.seq (.reg [⟨none, .bin 43 .lss false (.s 42) (.s 41)⟩]) (.seq (.cond (.s 43) .skip (.exit 0)) (.seq (.block 1 (.block 2 (.seq (.reg [⟨none, .mov 45 (.s 1)⟩, ⟨none, .mov 46 (.s 45)⟩, ⟨some (46, true), .off 47 5 (.s 9)⟩, ⟨some (46, true), .ld 48 1 false (.s 47)⟩, ⟨some (46, true), .len 49 false (.s 48)⟩, ⟨some (46, true), .bin 50 .eql false (.s 49) (.k (.int .i64 1))⟩, ⟨none, .pick 51 (.s 46) (.s 50) (.k (.bool false))⟩, ⟨none, .mov 44 (.s 51)⟩]) (.cond (.s 44) (.reg [⟨none, .off 52 5 (.s 9)⟩, ⟨none, .ld 53 1 false (.s 52)⟩, ⟨none, .idx 54 7 (.s 53) (.k (.int .i64 0))⟩, ⟨none, .off 55 1 (.s 54)⟩, ⟨none, .ld 56 6 true (.s 55)⟩, ⟨none, .st 6 (.s 9) (.s 56)⟩]) (.seq (.reg [⟨none, .mov 58 (.s 1)⟩, ⟨none, .un 59 .not (.s 58)⟩, ⟨none, .mov 60 (.s 59)⟩, ⟨some (60, true), .off 61 4 (.s 9)⟩, ⟨some (60, true), .ld 62 1 false (.s 61)⟩, ⟨some (60, true), .len 63 false (.s 62)⟩, ⟨some (60, true), .bin 64 .eql false (.s 63) (.k (.int .i64 1))⟩, ⟨none, .pick 65 (.s 60) (.s 64) (.k (.bool false))⟩, ⟨none, .mov 57 (.s 65)⟩]) (.cond (.s 57) (.reg [⟨none, .off 66 4 (.s 9)⟩, ⟨none, .ld 67 1 false (.s 66)⟩, ⟨none, .idx 68 6 (.s 67) (.k (.int .i64 0))⟩, ⟨none, .ld 69 6 true (.s 68)⟩, ⟨none, .st 6 (.s 9) (.s 69)⟩]) (.seq (.reg [⟨none, .mov 4 (.k (.bool false))⟩]) .ret))))))) (.reg [⟨none, .bin 70 .add false (.s 42) (.k (.int .i64 1))⟩, ⟨none, .mov 42 (.s 70)⟩]))))))) (.seq (.reg [⟨none, .call (some 71) (.k (.fn 11 [])) []⟩, ⟨none, .mov 72 (.s 71)⟩, ⟨some (72, true), .mov 73 (.s 10)⟩, ⟨some (72, true), .bin 74 .eql false (.s 73) (.k (.int .i64 0))⟩, ⟨none, .pick 75 (.s 72) (.s 74) (.k (.bool false))⟩, ⟨none, .mov 76 (.s 75)⟩, ⟨some (76, true), .off 77 0 (.s 9)⟩, ⟨some (76, true), .ld 78 1 false (.s 77)⟩, ⟨some (76, true), .bin 79 .eql false (.s 78) (.k (.int .i64 2))⟩, ⟨none, .pick 80 (.s 76) (.s 79) (.k (.bool false))⟩, ⟨none, .mov 81 (.s 80)⟩, ⟨some (81, true), .off 82 2 (.s 9)⟩, ⟨some (81, true), .ld 83 1 false (.s 82)⟩, ⟨some (81, true), .bin 84 .eql false (.s 83) (.k (.int .i64 1))⟩, ⟨none, .pick 85 (.s 81) (.s 84) (.k (.bool false))⟩, ⟨none, .mov 4 (.s 85)⟩]) .ret))))))))
def a_law05_YamlNests : AFn := ⟨2, 86, b_law05_YamlNests, [.tmp 4]⟩
theorem a_law05_YamlNests_ok : fnAF Tryz.prog [] Tryz.f5 = some a_law05_YamlNests := by kernel_rfl
theorem a_law05_YamlNests_cb : callable Tryz.prog 5 = true := by kernel_rfl
end Go.Proofs.YtgekcnpfflhpkaaGreatDoor
namespace Go.Proofs.YtgekcnpfflhpkaaGreatDoor
open Go.RowKit
theorem nestM (k : Nat) : nestV true (k + 1) = vMap [(⟨#[97]⟩, nestV true k)] := rfl
theorem nestL (k : Nat) : nestV false (k + 1) = vList [nestV false k] := rfl
theorem yamlNests_a (n : Nat) (hn : n < 256) (b : Bool) : AC Tryz.prog 5 [.int .u8 n, .bool b] (.bool true) := by
 have hA := awake_a
 obtain ⟨k, hk⟩ : ∃ k, k = n % 40 := ⟨_, rfl⟩
 have hk40 : k < 40 := by omega
 have hO := rep_a ⟨(nestO b).toArray⟩ k (by cases b <;> decide) (by
  have : (⟨(nestO b).toArray⟩ : ByteArray).size ≤ 4 := by cases b <;> decide
  have := Nat.mul_le_mul this (Nat.le_of_lt hk40)
  omega) (by omega)
 have hC := rep_a ⟨(nestC b).toArray⟩ k (by cases b <;> decide) (by
  have : (⟨(nestC b).toArray⟩ : ByteArray).size ≤ 1 := by cases b <;> decide
  have := Nat.mul_le_mul this (Nat.le_of_lt hk40)
  omega) (by omega)
 have hP := parse_a (nestS b k)
 rw [nest_v b k hk40] at hP
 have z1 : (⟨(Lib.repeatL (nestO b) k).toArray⟩ : ByteArray).size ≤ 160 := by
  rw [rep_size]
  have : (nestO b).length ≤ 4 := by cases b <;> decide
  have := Nat.mul_le_mul this (Nat.le_of_lt hk40)
  omega
 have z2 : (⟨(Lib.repeatL (nestC b) k).toArray⟩ : ByteArray).size ≤ 40 := by
  rw [rep_size]
  have : (nestC b).length ≤ 1 := by cases b <;> decide
  have := Nat.mul_le_mul this (Nat.le_of_lt hk40)
  omega
 have z3 : (ByteArray.mk #[49]).size = 1 := rfl
 have z4 : ((⟨(Lib.repeatL (nestO b) k).toArray⟩ : ByteArray) ++ ⟨#[49]⟩).size = (⟨(Lib.repeatL (nestO b) k).toArray⟩ : ByteArray).size + 1 := by rw [ByteArray.size_append, z3]
 have hrem : ((n : Int).tmod 40) = ((k : Nat) : Int) := by rw [hk]; rfl
 have hw1 : IntKind.i64.wrap ((k : Nat) : Int) = (k : Int) := wrap_in (by omega) (by omega)
 have hw2 : IntKind.i64.wrap ((k : Int) + 1) = ((k + 1 : Nat) : Int) := by rw [wrap_in (by omega) (by omega)]; omega
 have hP2 := And.intro trivial hP
 clear hP
 refine kE Tryz.func5 a_law05_YamlNests_ok a_law05_YamlNests_cb fun E hE => ?_
 refine kW ?_
 refine kQ [] ?_
 rw [hrem, hw1]
 refine kW ?_
 refine AK.cond (by rfl) (fun hb => ?_) (fun hb => ?_)
 ·refine kW ?_
  refine AK.weak (fr' := frOf [(1, .bool b), (5, .int .i64 k), (6, .str ⟨(nestO b).toArray⟩), (7, .str ⟨(nestC b).toArray⟩)]) (st' := ⟨boxOf [], fun _ => 0⟩) (Weak.intro ⟨kI, kI, ⟨_, rfl, .of_eq (by rw [hb]; rfl)⟩, ⟨_, rfl, .of_eq (by rw [hb]; rfl)⟩, trivial⟩ trivial rfl rfl) ?_
  refine kP [.v (.str ⟨(Lib.repeatL (nestO b) k).toArray⟩), .v (.str ⟨(Lib.repeatL (nestC b) k).toArray⟩)] ?_ ?_
  ·(repeat' apply And.intro) <;> first | exact hO | exact hC | omega | exact trivial
  refine kW ?_
  refine kP [.v (.tup [.agg [.int .i64 ((if 15 < k then V.null else nestV b k)).kind, .bool ((if 15 < k then V.null else nestV b k)).b, .int .i64 ((if 15 < k then V.null else nestV b k)).n, .str ((if 15 < k then V.null else nestV b k)).s, .lst .any 6 (rowsV ((if 15 < k then V.null else nestV b k)).l), .lst .any 7 (rowsM ((if 15 < k then V.null else nestV b k)).m)], .int .i64 (if 15 < k then 5 else 0)])] ?_ ?_
  ·(repeat' apply And.intro) <;> first | exact hP2.2 | exact trivial
  clear hP2 hO hC
  refine kW ?_
  rw [hw2]
  refine AK.cond (by rfl) (fun hc => ?_) (fun hc => ?_)
  ·have h16 : 15 < k := by
    have : (((k + 1 : Nat) : Int)) > 16 := by simpa using hc
    omega
   refine kW ?_
   refine kQ [.v (.bool true)] ?_
   refine kW ?_
   refine AK.ret ⟨_, rfl, ?_⟩
   rw [if_pos h16, if_pos h16]
   rfl
  ·have h16 : ¬ 15 < k := by
    have : ¬ (((k + 1 : Nat) : Int)) > 16 := by simpa using hc
    omega
   rw [if_neg h16, if_neg h16]
   refine kW ?_
   refine AK.loopI (fun i : Nat => (frOf [(1, .bool b), (9, .ptr 9 0), (10, .int .i64 0), (41, .int .i64 k), (42, .int .i64 i)], ⟨boxOf [(9, [.int .i64 ((nestV b (k - i))).kind, .bool ((nestV b (k - i))).b, .int .i64 ((nestV b (k - i))).n, .str ((nestV b (k - i))).s, .lst .any 6 (rowsV ((nestV b (k - i))).l), .lst .any 7 (rowsM ((nestV b (k - i))).m)], false)], fun _ => 0⟩)) (fun i => i ≤ k) (fun i => k - i) 0 (by omega) (Weak.intro ⟨kI, kI, kI, kI, kI, trivial⟩ ⟨kJ, trivial⟩ rfl rfl) fun i hi => ?_
   refine kW ?_
   refine kC (fun hb => ?_) fun hb => ?_
   ·have hlt : i < k := by
     have : (i : Int) < (k : Int) := by simpa using hb
     omega
    obtain ⟨d, hd⟩ : ∃ d, k - i = d + 1 := ⟨k - i - 1, by omega⟩
    have hd2 : k - (i + 1) = d := by omega
    rw [hd]
    clear hb hc h16 hA
    cases b with
    | true =>
     rw [nestM]
     refine kW ?_
     refine kQ [] ?_
     refine kC (fun hb => ?_) fun hb => ?_
     ·refine kW ?_
      refine kP [.c [.str ⟨#[97]⟩, .int .i64 (nestV true d).kind, .bool (nestV true d).b, .int .i64 (nestV true d).n, .str (nestV true d).s, .lst .any 6 (rowsV (nestV true d).l), .lst .any 7 (rowsM (nestV true d).m)]] ?_ ?_
      ·((repeat' apply And.intro) <;> first | exact kD | (intro hgd; refine ⟨?_, kG⟩; (repeat' apply And.intro) <;> first | exact kD | skip) | skip)
       all_goals (show some (AV.str ⟨#[97]⟩ :: cellsV (nestV true d)) = _; rw [cellsV_eq])
      refine kW ?_
      exact AK.lp ⟨i + 1, by omega, Weak.intro ⟨kI, kI, kI, kI, kU, trivial⟩ ⟨⟨_, rfl, leL_of_eq (by rw [hd2])⟩, trivial⟩ rfl rfl, by omega⟩
     ·simp [vMap, V.m, rowsM] at hb
    | false =>
     rw [nestL]
     refine kW ?_
     refine kQ [] ?_
     refine kC (fun hb => ?_) fun hb => ?_
     ·cases hb
     ·refine kW ?_
      refine kQ [] ?_
      refine kC (fun hb => ?_) fun hb => ?_
      ·refine kW ?_
       refine kP [.c [.int .i64 (nestV false d).kind, .bool (nestV false d).b, .int .i64 (nestV false d).n, .str (nestV false d).s, .lst .any 6 (rowsV (nestV false d).l), .lst .any 7 (rowsM (nestV false d).m)]] ?_ ?_
       ·((repeat' apply And.intro) <;> first | exact kD | (intro hgd; refine ⟨?_, kG⟩; (repeat' apply And.intro) <;> first | exact kD | skip) | skip)
        all_goals (show some (cellsV (nestV false d)) = _; rw [cellsV_eq])
       refine kW ?_
       exact AK.lp ⟨i + 1, by omega, Weak.intro ⟨kI, kI, kI, kI, kU, trivial⟩ ⟨⟨_, rfl, leL_of_eq (by rw [hd2])⟩, trivial⟩ rfl rfl, by omega⟩
      ·simp [vList, V.l, rowsV] at hb
   ·have hlt : i = k := by
     have : ¬ (i : Int) < (k : Int) := by simpa using hb
     omega
    subst hlt
    rw [Nat.sub_self]
    refine AK.exit rfl ?_
    refine kW ?_
    refine kQ [.v (.bool true)] ?_
    refine kW ?_
    refine AK.ret ⟨_, rfl, ?_⟩
    rfl
 ·refine kW ?_
  refine AK.weak (fr' := frOf [(1, .bool b), (5, .int .i64 k), (6, .str ⟨(nestO b).toArray⟩), (7, .str ⟨(nestC b).toArray⟩)]) (st' := ⟨boxOf [], fun _ => 0⟩) (Weak.intro ⟨kI, kI, ⟨_, rfl, .of_eq (by rw [hb]; rfl)⟩, ⟨_, rfl, .of_eq (by rw [hb]; rfl)⟩, trivial⟩ trivial rfl rfl) ?_
  refine kP [.v (.str ⟨(Lib.repeatL (nestO b) k).toArray⟩), .v (.str ⟨(Lib.repeatL (nestC b) k).toArray⟩)] ?_ ?_
  ·(repeat' apply And.intro) <;> first | exact hO | exact hC | omega | exact trivial
  refine kW ?_
  refine kP [.v (.tup [.agg [.int .i64 ((if 15 < k then V.null else nestV b k)).kind, .bool ((if 15 < k then V.null else nestV b k)).b, .int .i64 ((if 15 < k then V.null else nestV b k)).n, .str ((if 15 < k then V.null else nestV b k)).s, .lst .any 6 (rowsV ((if 15 < k then V.null else nestV b k)).l), .lst .any 7 (rowsM ((if 15 < k then V.null else nestV b k)).m)], .int .i64 (if 15 < k then 5 else 0)])] ?_ ?_
  ·(repeat' apply And.intro) <;> first | exact hP2.2 | exact trivial
  clear hP2 hO hC
  refine kW ?_
  rw [hw2]
  refine AK.cond (by rfl) (fun hc => ?_) (fun hc => ?_)
  ·have h16 : 15 < k := by
    have : (((k + 1 : Nat) : Int)) > 16 := by simpa using hc
    omega
   refine kW ?_
   refine kQ [.v (.bool true)] ?_
   refine kW ?_
   refine AK.ret ⟨_, rfl, ?_⟩
   rw [if_pos h16, if_pos h16]
   rfl
  ·have h16 : ¬ 15 < k := by
    have : ¬ (((k + 1 : Nat) : Int)) > 16 := by simpa using hc
    omega
   rw [if_neg h16, if_neg h16]
   refine kW ?_
   refine AK.loopI (fun i : Nat => (frOf [(1, .bool b), (9, .ptr 9 0), (10, .int .i64 0), (41, .int .i64 k), (42, .int .i64 i)], ⟨boxOf [(9, [.int .i64 ((nestV b (k - i))).kind, .bool ((nestV b (k - i))).b, .int .i64 ((nestV b (k - i))).n, .str ((nestV b (k - i))).s, .lst .any 6 (rowsV ((nestV b (k - i))).l), .lst .any 7 (rowsM ((nestV b (k - i))).m)], false)], fun _ => 0⟩)) (fun i => i ≤ k) (fun i => k - i) 0 (by omega) (Weak.intro ⟨kI, kI, kI, kI, kI, trivial⟩ ⟨kJ, trivial⟩ rfl rfl) fun i hi => ?_
   refine kW ?_
   refine kC (fun hb => ?_) fun hb => ?_
   ·have hlt : i < k := by
     have : (i : Int) < (k : Int) := by simpa using hb
     omega
    obtain ⟨d, hd⟩ : ∃ d, k - i = d + 1 := ⟨k - i - 1, by omega⟩
    have hd2 : k - (i + 1) = d := by omega
    rw [hd]
    clear hb hc h16 hA
    cases b with
    | true =>
     rw [nestM]
     refine kW ?_
     refine kQ [] ?_
     refine kC (fun hb => ?_) fun hb => ?_
     ·refine kW ?_
      refine kP [.c [.str ⟨#[97]⟩, .int .i64 (nestV true d).kind, .bool (nestV true d).b, .int .i64 (nestV true d).n, .str (nestV true d).s, .lst .any 6 (rowsV (nestV true d).l), .lst .any 7 (rowsM (nestV true d).m)]] ?_ ?_
      ·((repeat' apply And.intro) <;> first | exact kD | (intro hgd; refine ⟨?_, kG⟩; (repeat' apply And.intro) <;> first | exact kD | skip) | skip)
       all_goals (show some (AV.str ⟨#[97]⟩ :: cellsV (nestV true d)) = _; rw [cellsV_eq])
      refine kW ?_
      exact AK.lp ⟨i + 1, by omega, Weak.intro ⟨kI, kI, kI, kI, kU, trivial⟩ ⟨⟨_, rfl, leL_of_eq (by rw [hd2])⟩, trivial⟩ rfl rfl, by omega⟩
     ·simp [vMap, V.m, rowsM] at hb
    | false =>
     rw [nestL]
     refine kW ?_
     refine kQ [] ?_
     refine kC (fun hb => ?_) fun hb => ?_
     ·cases hb
     ·refine kW ?_
      refine kQ [] ?_
      refine kC (fun hb => ?_) fun hb => ?_
      ·refine kW ?_
       refine kP [.c [.int .i64 (nestV false d).kind, .bool (nestV false d).b, .int .i64 (nestV false d).n, .str (nestV false d).s, .lst .any 6 (rowsV (nestV false d).l), .lst .any 7 (rowsM (nestV false d).m)]] ?_ ?_
       ·((repeat' apply And.intro) <;> first | exact kD | (intro hgd; refine ⟨?_, kG⟩; (repeat' apply And.intro) <;> first | exact kD | skip) | skip)
        all_goals (show some (cellsV (nestV false d)) = _; rw [cellsV_eq])
       refine kW ?_
       exact AK.lp ⟨i + 1, by omega, Weak.intro ⟨kI, kI, kI, kI, kU, trivial⟩ ⟨⟨_, rfl, leL_of_eq (by rw [hd2])⟩, trivial⟩ rfl rfl, by omega⟩
      ·simp [vList, V.l, rowsV] at hb
   ·have hlt : i = k := by
     have : ¬ (i : Int) < (k : Int) := by simpa using hb
     omega
    subst hlt
    rw [Nat.sub_self]
    refine AK.exit rfl ?_
    refine kW ?_
    refine kQ [.v (.bool true)] ?_
    refine kW ?_
    refine AK.ret ⟨_, rfl, ?_⟩
    rfl
end Go.Proofs.YtgekcnpfflhpkaaGreatDoor
