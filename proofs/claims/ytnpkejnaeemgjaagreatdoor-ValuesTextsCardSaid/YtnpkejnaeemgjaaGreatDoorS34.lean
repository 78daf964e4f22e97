/-
  The texts that the claim wants, one behind the other: part 34.
-/
import Derived.Test.YtnpkejnaeemgjaaGreatDoorS33
set_option linter.unusedSimpArgs false
set_option linter.unusedVariables false
namespace Go.Proofs.YtnpkejnaeemgjaaGreatDoor
open Go.RowKit
mutual
def linV : V → Nat → List (Nat × Bs)
 | .mk _ _ _ _ l m, k => linL l k ++ linM m k
def linL : List V → Nat → List (Nat × Bs)
 | [], _ => []
 | x :: l, k => (if x.leaf = true then [(k, 45 :: 32 :: prL x)] else (k, [45]) :: linV x (k + 2)) ++ linL l k
def linM : List (ByteArray × V) → Nat → List (Nat × Bs)
 | [], _ => []
 | (y, x) :: m, k => (if x.leaf = true then [(k, wdL y ++ 58 :: 32 :: prL x)] else (k, wdL y ++ [58]) :: linV x (k + 2)) ++ linM m k
end
theorem linV_eq (v : V) (k : Nat) : linV v k = linL v.l k ++ linM v.m k := by cases v; rw [linV]; rfl
theorem linL_cons (x : V) (l : List V) (k : Nat) : linL (x :: l) k = (if x.leaf = true then [(k, 45 :: 32 :: prL x)] else (k, [45]) :: linV x (k + 2)) ++ linL l k := by rw [linL]
theorem linM_cons (y : ByteArray) (x : V) (m : List (ByteArray × V)) (k : Nat) : linM ((y, x) :: m) k = (if x.leaf = true then [(k, wdL y ++ 58 :: 32 :: prL x)] else (k, wdL y ++ [58]) :: linV x (k + 2)) ++ linM m k := by rw [linM]
inductive Fit : V → Prop where
 | leaf {v : V} (hl : v.leaf = true) (h : LeafOk v) : Fit v
 | list {l : List V} (hne : l ≠ []) (h : ∀ x ∈ l, Fit x) : Fit (vList l)
 | map {m : List (ByteArray × V)} (hne : m ≠ []) (hr : Rises m) (h : ∀ p ∈ m, Fit p.2) : Fit (vMap m)
theorem headL {l : List V} (hne : l ≠ []) (k : Nat) (r : List (Nat × Bs)) : ∃ t q, linL l k ++ r = (k, t) :: q ∧ isItem t = true := by
 cases l with
 | nil => exact absurd rfl hne
 | cons x l =>
  rw [linL_cons]
  split
  ·exact ⟨_, _, rfl, rfl⟩
  ·exact ⟨_, _, rfl, rfl⟩
theorem item_key {y : ByteArray} (t : Bs) : isItem (wdL y ++ t) = false := by
 have hk := key_ok y
 have hne := hk.w.ne
 cases hw : wdL y with
 | nil => exact absurd hw hne
 | cons c u =>
  have h45 := hk.head c (by rw [hw]; rfl)
  unfold isItem
  simp [List.isPrefixOf, h45, Ne.symm h45]
theorem headM {m : List (ByteArray × V)} (hne : m ≠ []) (h : ∀ p ∈ m, p.2.leaf = true → LeafOk p.2) (k : Nat) (r : List (Nat × Bs)) : ∃ t q, linM m k ++ r = (k, t) :: q ∧ isItem t = false ∧ (splitL t).isSome = true := by
 cases m with
 | nil => exact absurd rfl hne
 | cons p m =>
  obtain ⟨y, x⟩ := p
  rw [linM_cons]
  split
  ·rename_i hx
   have hl := h (y, x) (by simp) hx
   refine ⟨_, _, rfl, item_key _, ?_⟩
   rw [(key_ok y).spl _ hl.w.ne fun c hc => (hl.w.head c hc).1]
   rfl
  ·refine ⟨_, _, rfl, item_key _, ?_⟩
   rw [(key_ok y).spl0]
   rfl
theorem Fit.leafOk {v : V} (h : Fit v) (hl : v.leaf = true) : LeafOk v := by
 cases h with
 | leaf _ h => exact h
 | list hne _ => cases hx : (‹List V›) <;> simp_all [V.leaf, vList, V.l, V.m]
 | map hne _ _ => cases hx : (‹List (ByteArray × V)›) <;> simp_all [V.leaf, vMap, V.l, V.m]
def HeadLe (p : List (Nat × Bs)) (k : Nat) : Prop := ∀ x, p.head? = some x → x.1 ≤ k
theorem HeadLe.mono {p : List (Nat × Bs)} {k j : Nat} (h : HeadLe p k) (hk : k ≤ j) : HeadLe p j := fun x hx => Nat.le_trans (h x hx) hk
theorem headLe_L (l : List V) (k : Nat) {r : List (Nat × Bs)} (h : HeadLe r k) : HeadLe (linL l k ++ r) k := by
 cases l with
 | nil => exact h
 | cons x l =>
  intro y hy
  obtain ⟨t, q, e, _⟩ := headL (l := x :: l) (by simp) k r
  rw [e] at hy
  cases hy
  exact Nat.le_refl _
theorem headLe_M (m : List (ByteArray × V)) (k : Nat) {r : List (Nat × Bs)} (h : HeadLe r k) : HeadLe (linM m k ++ r) k := by
 cases m with
 | nil => exact h
 | cons p m =>
  obtain ⟨y, x⟩ := p
  intro z hz
  rw [linM_cons] at hz
  split at hz
  ·cases hz; exact Nat.le_refl _
  ·cases hz; exact Nat.le_refl _
theorem at_head {st : YR} {x : Nat × Bs} {r : List (Nat × Bs)} (h : st.l.drop st.at_ = x :: r) : st.l[st.at_]? = some x ∧ st.l.drop (st.at_ + 1) = r := by
 refine ⟨?_, ?_⟩
 ·rw [← List.head?_drop, h]; rfl
 ·rw [← List.drop_drop, h]; rfl
theorem deep_no {st : YR} {r : List (Nat × Bs)} {k : Nat} (h : st.l.drop st.at_ = r) (hr : HeadLe r k) : st.deep k = false := by
 unfold YR.deep
 cases hx : st.l[st.at_]? with
 | none => rfl
 | some x =>
  have h2 : r.head? = some x := by rw [← h, List.head?_drop]; exact hx
  exact decide_eq_false (by have := hr x h2; omega)
def Reads (N : Nat) : Prop := ∀ (v : V) (k n : Nat) (st : YR) (r : List (Nat × Bs)), v.size ≤ N → Fit v → v.leaf = false → st.l.drop st.at_ = linV v k ++ r → HeadLe r (k - 1) → (r ≠ [] → 0 < k) → 3 * st.w + 2 ≤ n →
 ∃ st', readF n .block k st = (v, st') ∧ st'.l.drop st'.at_ = r ∧ st'.bad = st.bad
theorem w_of {st : YR} {r : List (Nat × Bs)} (h : st.l.drop st.at_ = r) : st.w = wAt r := by rw [YR.w, h]
theorem wAt_cons (x : Nat × Bs) (r : List (Nat × Bs)) : wAt (x :: r) = x.2.length + 1 + wAt r := by simp [wAt]
theorem read_word {v : V} (hL : LeafOk v) (k n : Nat) {st : YR} {j : Nat} {r : List (Nat × Bs)} (h : st.l.drop st.at_ = (j, prL v) :: r) (hr : HeadLe r k) : readF (n + 1) .block k st = (v, ⟨st.l, st.at_ + 1, st.bad⟩) := by
 obtain ⟨h1, h2⟩ := at_head h
 have hd := deep_no (st := ⟨st.l, st.at_ + 1, st.bad⟩) h2 hr
 have hi : inlS (prL v) ⟨st.l, st.at_ + 1, st.bad⟩ = (v, ⟨st.l, st.at_ + 1, st.bad⟩) := by
  unfold inlS
  rw [hL.inl]
  simp
 unfold readF
 rw [h1]
 simp only [hL.item, hL.spl, Option.isSome_none, Bool.false_eq_true, if_false, hi, hd]
theorem below_of {N : Nat} (hN : Reads N) {x : V} (hs : x.size ≤ N) (hf : Fit x) (hx : x.leaf = false) (k n : Nat) {st : YR} {r : List (Nat × Bs)} (h : st.l.drop st.at_ = linV x (k + 2) ++ r) (hr : HeadLe r k) (hn : 3 * st.w + 3 ≤ n) :
  ∃ st', readF n .below k st = (x, st') ∧ st'.l.drop st'.at_ = r ∧ st'.bad = st.bad := by
 obtain ⟨n, rfl⟩ : ∃ m, n = m + 1 := ⟨n - 1, by omega⟩
 obtain ⟨st', h1, h2⟩ := hN x (k + 2) n st r hs hf hx h (hr.mono (by omega)) (fun _ => by omega) (by omega)
 have hh : ∃ t, st.l[st.at_]? = some (k + 2, t) := by
  have hne : ∃ t q, linV x (k + 2) ++ r = (k + 2, t) :: q := by
   cases hf with
   | leaf hl _ => rw [hl] at hx; cases hx
   | @list l hne hl =>
    obtain ⟨t, q, e, _⟩ := headL hne (k + 2) r
    exact ⟨t, q, by rw [linV_eq]; show (linL l (k + 2) ++ linM [] (k + 2)) ++ r = _; rw [linM, List.append_nil]; exact e⟩
   | @map m hne hrs hm =>
    obtain ⟨t, q, e, _⟩ := headM hne (fun p hp hl => (hm p hp).leafOk hl) (k + 2) r
    exact ⟨t, q, by rw [linV_eq]; show (linL [] (k + 2) ++ linM m (k + 2)) ++ r = _; rw [linL, List.nil_append]; exact e⟩
  obtain ⟨t, q, e⟩ := hne
  rw [e] at h
  exact ⟨t, (at_head h).1⟩
 obtain ⟨t, ht⟩ := hh
 refine ⟨st', ?_, h2⟩
 unfold readF
 rw [ht]
 simp only
 rw [if_pos (by omega)]
 exact h1
theorem list_of {N : Nat} (hN : Reads N) : ∀ (l : List V) (out : List V) (k n : Nat) (st : YR) (r : List (Nat × Bs)), (∀ x ∈ l, Fit x ∧ x.size ≤ N) → st.l.drop st.at_ = linL l k ++ r → HeadLe r (k - 1) → (r ≠ [] → 0 < k) → 3 * st.w + 1 ≤ n →
  ∃ st', readF n (.list out) k st = (vList (out ++ l), st') ∧ st'.l.drop st'.at_ = r ∧ st'.bad = st.bad
 | [], out, k, n, st, r, _, h, hr, hk, hn => by
  obtain ⟨n, rfl⟩ : ∃ m, n = m + 1 := ⟨n - 1, by omega⟩
  rw [linL, List.nil_append] at h
  refine ⟨st, ?_, h, rfl⟩
  rw [List.append_nil]
  unfold readF
  cases hx : st.l[st.at_]? with
  | none => rfl
  | some x =>
   obtain ⟨j, t⟩ := x
   have h2 : r.head? = some (j, t) := by rw [← h, List.head?_drop]; exact hx
   have h3 := hr _ h2
   have h4 := hk (by intro e; rw [e] at h2; cases h2)
   simp only at h3
   simp only
   rw [if_neg (by omega)]
 | x :: l, out, k, n, st, r, hall, h, hr, hk, hn => by
  obtain ⟨n, rfl⟩ : ∃ m, n = m + 1 := ⟨n - 1, by omega⟩
  obtain ⟨hf, hs⟩ := hall x (by simp)
  have hw := w_of h
  rw [linL_cons, List.append_assoc] at h hw
  have hnext : HeadLe (linL l k ++ r) k := headLe_L l k (hr.mono (by omega))
  cases hx : x.leaf with
  | true =>
   have hL := hf.leafOk hx
   rw [hx, if_pos rfl, List.singleton_append] at h hw
   obtain ⟨h1, h2⟩ := at_head h
   have hlt := (List.getElem?_eq_some_iff.1 h1).1
   rw [wAt_cons] at hw
   simp only [List.length_cons] at hw
   have hit : isItem (45 :: 32 :: prL x) = true := rfl
   have htl : tl ((45 :: 32 :: prL x).drop 1) = prL x := by
    obtain ⟨c, t, hct⟩ : ∃ c t, prL x = c :: t := by
     cases hp : prL x with
     | nil => exact absurd hp hL.w.ne
     | cons c t => exact ⟨c, t, rfl⟩
    rw [hct]
    exact tl_pad 1 (hL.w.head c (by rw [hct]; rfl)).1
   obtain ⟨m, rfl⟩ : ∃ m, n = m + 1 := ⟨n - 1, by omega⟩
   have hset : (st.l.set st.at_ (k + 2, prL x)).drop st.at_ = (k + 2, prL x) :: (linL l k ++ r) := by
    rw [drop_at (x := (k + 2, prL x)) (by rw [List.getElem?_set_self hlt]), List.drop_set_of_lt (by omega), h2]
   have hrd := read_word hL (k + 2) m (st := ⟨st.l.set st.at_ (k + 2, prL x), st.at_, st.bad⟩) hset (hnext.mono (by omega))
   have hd2 : (st.l.set st.at_ (k + 2, prL x)).drop (st.at_ + 1) = linL l k ++ r := by rw [List.drop_set_of_lt (by omega), h2]
   have hw2 := w_of (st := ⟨st.l.set st.at_ (k + 2, prL x), st.at_ + 1, st.bad⟩) hd2
   obtain ⟨st', k1, k2, k3⟩ := list_of hN l (out ++ [x]) k (m + 1) ⟨st.l.set st.at_ (k + 2, prL x), st.at_ + 1, st.bad⟩ r (fun y hy => hall y (by simp [hy])) hd2 hr hk (by omega)
   refine ⟨st', ?_, k2, k3⟩
   rw [readF, h1]
   simp only
   rw [if_pos ⟨trivial, hit⟩, htl, if_neg hL.w.ne, show k + (45 :: 32 :: prL x).length - (prL x).length = k + 2 by simp; omega, hrd]
   simp only
   rw [k1, List.append_assoc]
   rfl
  | false =>
   rw [hx, if_neg (by simp), List.cons_append] at h hw
   obtain ⟨h1, h2⟩ := at_head h
   rw [wAt_cons] at hw
   simp only [List.length_cons, List.length_nil] at hw
   have hw2 := w_of (st := ⟨st.l, st.at_ + 1, st.bad⟩) h2
   obtain ⟨st1, j1, j2, j3⟩ := below_of hN hs hf hx k n (st := ⟨st.l, st.at_ + 1, st.bad⟩) h2 hnext (by omega)
   have hw3 := w_of j2
   have hle : wAt (linL l k ++ r) ≤ wAt (linV x (k + 2) ++ (linL l k ++ r)) := by unfold wAt; rw [List.map_append (l₁ := linV x (k + 2)), List.sum_append]; omega
   obtain ⟨st', k1, k2, k3⟩ := list_of hN l (out ++ [x]) k n st1 r (fun y hy => hall y (by simp [hy])) j2 hr hk (by omega)
   refine ⟨st', ?_, k2, k3.trans j3⟩
   rw [readF, h1]
   simp only
   rw [if_pos ⟨trivial, by rfl⟩, show tl (([45] : Bs).drop 1) = [] from rfl, if_pos rfl, j1]
   simp only
   rw [k1, List.append_assoc]
   rfl
theorem minsert_end {y : ByteArray} (x : V) : ∀ {out : List (ByteArray × V)}, (∀ p ∈ out, klt p.1 y) → minsert y x out = out ++ [(y, x)]
 | [], _ => rfl
 | (k, z) :: out, h => by
  rw [minsert, if_pos (cmpS_lt.2 (h (k, z) (by simp))), minsert_end x fun p hp => h p (by simp [hp])]
  rfl
theorem mfind_end {y : ByteArray} : ∀ {out : List (ByteArray × V)}, (∀ p ∈ out, klt p.1 y) → mfind y out = none
 | [], _ => rfl
 | (k, z) :: out, h => by
  rw [mfind, if_neg (klt_ne (h (k, z) (by simp))), mfind_end fun p hp => h p (by simp [hp])]
theorem map_of {N : Nat} (hN : Reads N) : ∀ (m out : List (ByteArray × V)) (k n : Nat) (st : YR) (r : List (Nat × Bs)), (∀ p ∈ m, Fit p.2 ∧ p.2.size ≤ N) → Rises (out ++ m) → st.l.drop st.at_ = linM m k ++ r → HeadLe r (k - 1) → (r ≠ [] → 0 < k) → 3 * st.w + 1 ≤ n →
  ∃ st', readF n (.pairs out) k st = (vMap (out ++ m), st') ∧ st'.l.drop st'.at_ = r ∧ st'.bad = st.bad
 | [], out, k, n, st, r, _, _, h, hr, hk, hn => by
  obtain ⟨n, rfl⟩ : ∃ m, n = m + 1 := ⟨n - 1, by omega⟩
  rw [linM, List.nil_append] at h
  refine ⟨st, ?_, h, rfl⟩
  rw [List.append_nil]
  unfold readF
  cases hx : st.l[st.at_]? with
  | none => rfl
  | some x =>
   obtain ⟨j, t⟩ := x
   have h2 : r.head? = some (j, t) := by rw [← h, List.head?_drop]; exact hx
   have h3 := hr _ h2
   have h4 := hk (by intro e; rw [e] at h2; cases h2)
   simp only at h3
   simp only
   rw [if_neg (by omega)]
 | (y, x) :: m, out, k, n, st, r, hall, hri, h, hr, hk, hn => by
  obtain ⟨n, rfl⟩ : ∃ m, n = m + 1 := ⟨n - 1, by omega⟩
  obtain ⟨hf, hs⟩ := hall (y, x) (by simp)
  simp only at hf hs
  have hw := w_of h
  rw [linM_cons, List.append_assoc] at h hw
  have hnext : HeadLe (linM m k ++ r) k := headLe_M m k (hr.mono (by omega))
  have hlt : ∀ p ∈ out, klt p.1 y := fun p hp => (List.pairwise_append.1 hri).2.2 p hp (y, x) (by simp)
  have hins := minsert_end x hlt
  have hfind := mfind_end hlt
  have hty : toB y.data.toList = y := toB_eta y
  have hri2 : Rises ((out ++ [(y, x)]) ++ m) := by rw [List.append_assoc]; exact hri
  cases hx : x.leaf with
  | true =>
   have hL := hf.leafOk hx
   rw [hx, if_pos rfl, List.singleton_append] at h hw
   obtain ⟨h1, h2⟩ := at_head h
   rw [wAt_cons] at hw
   simp only [List.length_append, List.length_cons] at hw
   have hsp := (key_ok y).spl (prL x) hL.w.ne fun c hc => (hL.w.head c hc).1
   have hi : inlS (prL x) ⟨st.l, st.at_ + 1, st.bad⟩ = (x, ⟨st.l, st.at_ + 1, st.bad⟩) := by
    unfold inlS
    rw [hL.inl]
    simp
   have hw2 := w_of (st := ⟨st.l, st.at_ + 1, st.bad⟩) h2
   obtain ⟨st', k1, k2, k3⟩ := map_of hN m (out ++ [(y, x)]) k n ⟨st.l, st.at_ + 1, st.bad⟩ r (fun p hp => hall p (by simp [hp])) hri2 h2 hr hk (by omega)
   refine ⟨st', ?_, k2, k3⟩
   rw [readF, h1]
   simp only
   rw [if_pos trivial, item_key, if_neg (by simp), hsp]
   simp only
   rw [hty, hfind, if_neg (by simp), if_neg hL.w.ne, hi]
   simp only
   rw [hins, k1, List.append_assoc]
   rfl
  | false =>
   rw [hx, if_neg (by simp), List.cons_append] at h hw
   obtain ⟨h1, h2⟩ := at_head h
   rw [wAt_cons] at hw
   simp only [List.length_append, List.length_cons, List.length_nil] at hw
   have hsp := (key_ok y).spl0
   have hw2 := w_of (st := ⟨st.l, st.at_ + 1, st.bad⟩) h2
   obtain ⟨st1, j1, j2, j3⟩ := below_of hN hs hf hx k n (st := ⟨st.l, st.at_ + 1, st.bad⟩) h2 hnext (by omega)
   have hw3 := w_of j2
   have hle : wAt (linM m k ++ r) ≤ wAt (linV x (k + 2) ++ (linM m k ++ r)) := by unfold wAt; rw [List.map_append (l₁ := linV x (k + 2)), List.sum_append]; omega
   obtain ⟨st', k1, k2, k3⟩ := map_of hN m (out ++ [(y, x)]) k n st1 r (fun p hp => hall p (by simp [hp])) hri2 j2 hr hk (by omega)
   refine ⟨st', ?_, k2, k3.trans j3⟩
   rw [readF, h1]
   simp only
   rw [if_pos trivial, item_key, if_neg (by simp), hsp]
   simp only
   rw [hty, hfind, if_neg (by simp), if_pos trivial, j1]
   simp only
   rw [hins, k1, List.append_assoc]
   rfl
theorem reads_all : ∀ N, Reads N
 | 0 => fun v _ _ _ _ hs => by have := v.size_pos; omega
 | N + 1 => fun v k n st r hs hf hl h hr hk hn => by
  have hN := reads_all N
  obtain ⟨n, rfl⟩ : ∃ m, n = m + 1 := ⟨n - 1, by omega⟩
  cases hf with
  | leaf hl2 _ => rw [hl2] at hl; cases hl
  | @list l hne hall =>
   have hL : linV (vList l) k = linL l k := by rw [linV_eq]; show linL l k ++ linM [] k = _; rw [linM, List.append_nil]
   rw [hL] at h
   obtain ⟨t, q, e, hit⟩ := headL hne k r
   have h1 := (at_head (h.trans e)).1
   rw [vList_size] at hs
   obtain ⟨st', k1, k2, k3⟩ := list_of hN l [] k n st r (fun x hx => ⟨hall x hx, by have := mem_sizeL hx; omega⟩) h hr hk (by omega)
   refine ⟨st', ?_, k2, k3⟩
   have hd := deep_no k2 (hr.mono (show k - 1 ≤ k by omega))
   unfold readF
   rw [h1]
   simp only [hit, if_true, k1, hd, Bool.false_eq_true, if_false]
   rfl
  | @map m hne hri hall =>
   have hM : linV (vMap m) k = linM m k := by rw [linV_eq]; show linL [] k ++ linM m k = _; rw [linL, List.nil_append]
   rw [hM] at h
   obtain ⟨t, q, e, hit, hsp⟩ := headM hne (fun p hp hl => (hall p hp).leafOk hl) k r
   have h1 := (at_head (h.trans e)).1
   rw [vMap_size] at hs
   obtain ⟨st', k1, k2, k3⟩ := map_of hN m [] k n st r (fun p hp => ⟨hall p hp, by have := mem_sizeM hp; omega⟩) (by simpa using hri) h hr hk (by omega)
   refine ⟨st', ?_, k2, k3⟩
   have hd := deep_no k2 (hr.mono (show k - 1 ≤ k by omega))
   unfold readF
   rw [h1]
   simp only [hit, hsp, if_true, k1, hd, Bool.false_eq_true, if_false]
   rfl
end Go.Proofs.YtnpkejnaeemgjaaGreatDoor
