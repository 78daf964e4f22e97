/-
  What is put at a leaf's path, or dropped there, or added, is all that changes: the plain laws.
-/
import Derived.Test.YtamecdecpmklmaaEd2
namespace Go.Proofs.Ytamecdecpmklmaa
set_option linter.unusedSimpArgs false
set_option linter.unusedVariables false
open Go.RowKit

theorem risingK_of_rises {m : List (ByteArray × V)} (h : Rises m) : risingK m := by
  refine risingK_of fun i p q hp hq => ?_
  obtain ⟨h1, e1⟩ := List.getElem?_eq_some_iff.1 hp
  obtain ⟨h2, e2⟩ := List.getElem?_eq_some_iff.1 hq
  have := List.pairwise_iff_getElem.1 h i (i + 1) h1 h2 (by omega)
  rw [e1, e2] at this
  exact this
theorem good_keyB {v : V} (h : v.good) {p : ByteArray × V} (hp : p ∈ v.m) : keyB p.1 = true := ((goodM_iff _).1 (v.good_eq.1 h).2.2.2.1 p hp).1
theorem mfind_minsert {k s : ByteArray} {y : V} : ∀ {m : List (ByteArray × V)}, Rises m → mfind k (minsert s y m) = if k = s then some y else mfind k m
  | [], _ => by
    simp only [minsert, mfind]
    by_cases h : s = k
    · rw [if_pos h, if_pos h.symm]
    · rw [if_neg h, if_neg (fun e => h e.symm)]
  | (a, z) :: m, h => by
    have hc := List.pairwise_cons.1 h
    rw [minsert]
    split
    · rename_i hlt
      have hne : a ≠ s := klt_ne (cmpS_lt.1 hlt)
      rw [mfind, mfind, mfind_minsert hc.2]
      by_cases h1 : a = k
      · rw [if_pos h1, if_pos h1, if_neg (fun e => hne (h1.trans e))]
      · rw [if_neg h1, if_neg h1]
    · split
      · rename_i he
        have := cmpS_eq.1 he
        subst this
        rw [mfind, mfind]
        by_cases h1 : a = k
        · rw [if_pos h1, if_pos h1.symm]
        · rw [if_neg h1, if_neg (fun e => h1 e.symm), if_neg h1]
      · rw [mfind]
        by_cases h1 : s = k
        · rw [if_pos h1, if_pos h1.symm]
        · rw [if_neg h1, if_neg (fun e => h1 e.symm)]
theorem mfind_fdrop {k s : ByteArray} : ∀ (m : List (ByteArray × V)), mfind k (fdrop s m) = if k = s then none else mfind k m
  | [] => by simp [fdrop, mfind]
  | (a, z) :: m => by
    have ih := mfind_fdrop (k := k) (s := s) m
    by_cases h1 : a = s
    · have e : fdrop s ((a, z) :: m) = fdrop s m := by simp [fdrop, h1]
      rw [e, ih, mfind]
      by_cases h2 : k = s
      · rw [if_pos h2, if_pos h2]
      · rw [if_neg h2, if_neg h2, if_neg (fun e => h2 (e.symm.trans h1))]
    · have e : fdrop s ((a, z) :: m) = (a, z) :: fdrop s m := by simp [fdrop, h1]
      rw [e, mfind, mfind, ih]
      by_cases h2 : a = k
      · rw [if_pos h2, if_pos h2, if_neg (fun e => h1 (h2.trans e))]
      · rw [if_neg h2, if_neg h2]
/-- a leaf of a map that isn't empty: its first step -/
theorem leaf_split {v : V} (hm : v.m ≠ []) {q : Path × V} (hq : q ∈ v.leaves) : ∃ k u r, (k, u) ∈ v.m ∧ r ∈ u.leaves ∧ q = (k :: r.1, r.2) := by
  rw [V.leaves_eq, if_neg (by simpa using hm)] at hq
  obtain ⟨p, hp, r, hr, e⟩ := mem_leavesM.1 hq
  exact ⟨p.1, p.2, r, hp, hr, e⟩
theorem leaf_nil {v : V} (hm : v.m = []) : v.leaves = [([], v)] := by rw [V.leaves_eq, hm]; rfl
theorem leaf_join {v : V} {k : ByteArray} {u : V} {r : Path × V} (hp : (k, u) ∈ v.m) (hr : r ∈ u.leaves) : (k :: r.1, r.2) ∈ v.leaves := by
  have hm : v.m ≠ [] := fun e => by rw [e] at hp; cases hp
  rw [V.leaves_eq, if_neg (by simpa using hm)]
  exact mem_leavesM.2 ⟨(k, u), hp, r, hr, rfl⟩
theorem leaf_path_nil {v : V} {z : V} (h : ([], z) ∈ v.leaves) : v.m = [] ∧ z = v := by
  by_cases hm : v.m = []
  · rw [leaf_nil hm] at h
    simp at h
    exact ⟨hm, h⟩
  · obtain ⟨k, u, r, _, _, e⟩ := leaf_split hm h
    cases e
theorem leaf_path_cons {v : V} {s : ByteArray} {l : Path} {z : V} (hg : v.good) (h : (s :: l, z) ∈ v.leaves) : ∃ i, mfind s v.m = some i ∧ (s, i) ∈ v.m ∧ (l, z) ∈ i.leaves ∧ v.kind = 5 := by
  by_cases hm : v.m = []
  · rw [leaf_nil hm] at h
    simp at h
  · obtain ⟨k, u, r, h1, h2, e⟩ := leaf_split hm h
    obtain ⟨r1, r2⟩ := r
    injection e with e1 e2
    injection e1 with e1 e3
    subst e1 e2 e3
    exact ⟨u, mfind_mem (good_rises hg) h1, h1, h2, good_kind hg hm⟩
theorem nodup_leavesM {m : List (ByteArray × V)} (hr : Rises m) (h : ∀ p ∈ m, (p.2.leaves.map (·.1)).Nodup) : ((leavesM m).map (·.1)).Nodup := by
  induction m with
  | nil => simp [leavesM]
  | cons p m ih =>
    obtain ⟨y, x⟩ := p
    have hc := List.pairwise_cons.1 hr
    rw [leavesM, List.map_append, List.nodup_append]
    refine ⟨?_, ih hc.2 fun q hq => h q (by simp [hq]), fun a ha b hb e => ?_⟩
    · have h1 := h (y, x) (by simp)
      simp only at h1
      rw [List.map_map, show ((fun x => x.1) ∘ fun q : Path × V => (y :: q.1, q.2)) = (fun l : Path => y :: l) ∘ (fun q : Path × V => q.1) from rfl, ← List.map_map]
      exact List.Pairwise.map _ (fun a b hab e => hab (by injection e)) h1
    · subst e
      simp only [List.mem_map] at ha hb
      obtain ⟨q1, ⟨q, _, rfl⟩, rfl⟩ := ha
      obtain ⟨q2, hq2, e⟩ := hb
      obtain ⟨p, hp, r, hr2, rfl⟩ := mem_leavesM.1 hq2
      injection e with e1 _
      exact klt_ne (hc.1 p hp) e1.symm
theorem nodup_leaves : ∀ (n : Nat) (v : V), v.size ≤ n → v.good → (v.leaves.map (·.1)).Nodup := by
  intro n
  induction n with
  | zero => intro v h; have := v.size_pos; omega
  | succ n ih =>
    intro v h hg
    by_cases hm : v.m = []
    · rw [leaf_nil hm]; simp
    · rw [V.leaves_eq, if_neg (by simpa using hm)]
      refine nodup_leavesM (good_rises hg) fun p hp => ih p.2 ?_ (good_m hg hp)
      have := mem_sizeM hp
      have := v.size_eq
      omega
theorem filterMap_one {α β γ : Type} [DecidableEq α] : ∀ {l : List (α × β)} {p : α} {z : β} {r : γ}, (l.map (·.1)).Nodup → (p, z) ∈ l → l.filterMap (fun q => if q.1 = p then some r else none) = [r]
  | [], _, _, _, _, h => by cases h
  | (a, b) :: l, p, z, r, hn, h => by
    simp only [List.map_cons, List.nodup_cons] at hn
    rw [List.filterMap_cons]
    by_cases ha : a = p
    · have : l.filterMap (fun q => if q.1 = p then some r else none) = [] := by
        rw [List.filterMap_eq_nil_iff]
        intro q hq
        rw [if_neg]
        intro e
        exact hn.1 (by rw [ha, ← e]; exact List.mem_map_of_mem hq)
      simp [ha, this]
    · rcases List.mem_cons.1 h with e | h
      · injection e with e1 _; exact absurd e1.symm ha
      · simp only [if_neg ha]
        exact filterMap_one hn.2 h
theorem filterMap_congr' {α β : Type} {f g : α → Option β} : ∀ {l : List α}, (∀ x ∈ l, f x = g x) → l.filterMap f = l.filterMap g
  | [], _ => rfl
  | a :: l, h => by
    rw [List.filterMap_cons, List.filterMap_cons, h a (by simp), filterMap_congr' fun x hx => h x (by simp [hx])]
theorem minsert_map {s : ByteArray} {y i : V} : ∀ {m : List (ByteArray × V)}, Rises m → (s, i) ∈ m → minsert s y m = m.map fun p => if p.1 = s then (s, y) else p
  | [], _, h => by cases h
  | (a, z) :: m, hr, h => by
    have hc := List.pairwise_cons.1 hr
    rw [minsert, List.map_cons]
    by_cases ha : a = s
    · subst ha
      rw [if_neg (by rw [cmpS_eq.2 rfl]; omega), if_pos (cmpS_eq.2 rfl), if_pos rfl]
      congr 1
      have : ∀ p ∈ m, (fun p : ByteArray × V => if p.1 = a then (a, y) else p) p = p := fun p hp => if_neg (fun e => klt_ne (hc.1 p hp) e.symm)
      have e : (m.map fun p : ByteArray × V => if p.1 = a then (a, y) else p) = m := by
        rw [List.map_congr_left (g := fun p => p) this]
        exact List.map_id' m
      exact e.symm
    · rcases List.mem_cons.1 h with e | h
      · injection e with e1 _; exact absurd e1.symm ha
      · rw [if_pos (cmpS_lt.2 (hc.1 (s, i) h)), minsert_map hc.2 h, if_neg ha]
theorem vMap_m (m : List (ByteArray × V)) : (vMap m).m = m := rfl
theorem vMap_leaves {m : List (ByteArray × V)} (h : m ≠ []) : (vMap m).leaves = leavesM m := by rw [V.leaves_eq, vMap_m, if_neg (by simpa using h)]
theorem put_cons {x v i : V} {s : ByteArray} {l : Path} (hg : v.good) (hk : v.kind = 5) (hf : mfind s v.m = some i) : V.put x (s :: l) v = vMap (minsert s (V.put x l i) v.m) := by
  rw [V.put, if_pos hk, hf, rput_eq (good_rises hg)]
  rfl
theorem minsert_ne {s : ByteArray} {y : V} (m : List (ByteArray × V)) : minsert s y m ≠ [] := by
  cases m with
  | nil => simp [minsert]
  | cons p m =>
    obtain ⟨k, z⟩ := p
    rw [minsert]
    by_cases h1 : cmpS k s < 0
    · rw [if_pos h1]; simp
    · rw [if_neg h1]
      by_cases h2 : cmpS k s = 0
      · rw [if_pos h2]; simp
      · rw [if_neg h2]; simp
/-- the leaves behind a Put at a leaf's path -/
theorem put_leaves {x : V} (hx : x.m = []) : ∀ (p : Path) (v z : V), v.good → (p, z) ∈ v.leaves → (V.put x p v).leaves = v.leaves.map fun q => if q.1 = p then (p, x) else q
  | [], v, z, hg, h => by
    obtain ⟨hm, _⟩ := leaf_path_nil h
    rw [V.put, leaf_nil hx, leaf_nil hm]
    rfl
  | s :: l, v, z, hg, h => by
    obtain ⟨i, hf, hmem, hl, hk⟩ := leaf_path_cons hg h
    have ih := put_leaves hx l i z (good_m hg hmem) hl
    rw [put_cons hg hk hf, vMap_leaves (minsert_ne _), minsert_map (good_rises hg) hmem]
    have hm : v.m ≠ [] := fun e => by rw [e] at hmem; cases hmem
    rw [V.leaves_eq (v := v), if_neg (by simpa using hm)]
    have key : ∀ m : List (ByteArray × V), (∀ p ∈ m, p.1 = s → p.2 = i) → leavesM (m.map fun p => if p.1 = s then (s, V.put x l i) else p) = (leavesM m).map fun q => if q.1 = s :: l then (s :: l, x) else q := by
      intro m
      induction m with
      | nil => intro _; rfl
      | cons p m ihm =>
        obtain ⟨k, u⟩ := p
        intro hu
        rw [List.map_cons, show leavesM ((k, u) :: m) = u.leaves.map (fun q => (k :: q.1, q.2)) ++ leavesM m by rw [leavesM], List.map_append, ← ihm fun p hp => hu p (by simp [hp])]
        by_cases hks : k = s
        · have hui := hu (k, u) (by simp) hks
          simp only at hui
          subst hks hui
          simp only [if_true]
          rw [leavesM, ih]
          congr 1
          simp only [List.map_map]
          apply List.map_congr_left
          intro q _
          simp only [Function.comp]
          by_cases hq : q.1 = l
          · rw [if_pos hq, if_pos (by rw [hq])]
          · rw [if_neg hq, if_neg (fun e => hq (by injection e))]
        · simp only [if_neg hks]
          rw [leavesM]
          congr 1
          rw [List.map_map]
          apply List.map_congr_left
          intro q _
          simp only [Function.comp]
          rw [if_neg (fun e => hks (by injection e))]
    refine key v.m fun p hp e => ?_
    obtain ⟨k, u⟩ := p
    simp only at e
    subst e
    have := mfind_mem (good_rises hg) hp
    rw [hf] at this
    cases this
    rfl
theorem vMap_minsert_good {v y : V} {s : ByteArray} (hg : v.good) (hy : y.good) (hs : keyB s = true) : (vMap (minsert s y v.m)).good := by
  refine vMap_good (fun p hp => ?_) (risingK_of_rises (minsert_rises (good_rises hg)))
  rcases minsert_mem hp with rfl | hp
  · exact ⟨hs, hy⟩
  · exact ⟨good_keyB hg hp, good_m hg hp⟩
theorem put_good {x : V} (hx : x.good) : ∀ (p : Path) (v z : V), v.good → (p, z) ∈ v.leaves → (V.put x p v).good
  | [], v, z, hg, h => by rw [V.put]; exact hx
  | s :: l, v, z, hg, h => by
    obtain ⟨i, hf, hmem, hl, hk⟩ := leaf_path_cons hg h
    rw [put_cons hg hk hf]
    exact vMap_minsert_good hg (put_good hx l i z (good_m hg hmem) hl) (good_keyB hg hmem)
/-- P21.1: a leaf that others change is Other, at its path, and nothing else -/
theorem changes_put {x v z : V} {p : Path} (hg : v.good) (hxg : x.good) (hx : x.m = []) (h : (p, z) ∈ v.leaves) (hne : z ≠ x) : changes (V.put x p v) v = [(2, p)] := by
  have hl := put_leaves hx p v z hg h
  have hpg := put_good hxg p v z hg h
  have hnd := nodup_leaves v.size v (Nat.le_refl _) hg
  have hget : ∀ q ∈ v.leaves, (V.put x p v).get q.1 = some (if q.1 = p then x else q.2) := by
    intro q hq
    have hm : (if q.1 = p then (p, x) else q) ∈ (V.put x p v).leaves := by rw [hl]; exact List.mem_map_of_mem hq
    by_cases he : q.1 = p
    · rw [if_pos he] at hm ⊢
      rw [he]
      exact V.get_leaf hpg hm
    · rw [if_neg he] at hm ⊢
      exact V.get_leaf hpg hm
  have hA : chgA (V.put x p v) v.leaves = [(2, p)] := by
    unfold chgA
    rw [filterMap_congr' (g := fun q => if q.1 = p then some (2, p) else none) fun q hq => ?_]
    · exact filterMap_one hnd h
    · rw [chg1, hget q hq]
      by_cases he : q.1 = p
      · have hz : q.2 = z := by
          have h1 := V.get_leaf hg hq
          have h2 := V.get_leaf hg h
          rw [he, h2] at h1
          cases h1
          rfl
        simp only [if_pos he]
        rw [hz, V.sameB_false.2 (fun e => hne e.symm), he]
        rfl
      · simp only [if_neg he]
        rw [V.sameB_true.2 rfl]
        rfl
  have hB : chgB v.leaves (V.put x p v).leaves = [] := by
    unfold chgB
    rw [List.filterMap_eq_nil_iff]
    intro q hq
    rw [hl] at hq
    obtain ⟨q0, hq0, rfl⟩ := List.mem_map.1 hq
    have : (if q0.1 = p then (p, x) else q0).1 = q0.1 := by split <;> simp_all
    rw [chg3, this, owned_self hq0]
    rfl
  rw [changes, hA, hB]
  rfl
theorem fdrop_mem {s : ByteArray} {m : List (ByteArray × V)} {p : ByteArray × V} (h : p ∈ fdrop s m) : p ∈ m := (List.mem_filter.1 h).1
theorem fdrop_good {v : V} {s : ByteArray} (hg : v.good) (hk : v.kind = 5) : (V.mk v.kind v.b v.n v.s v.l (fdrop s v.m)).good := by
  obtain ⟨h1, h2, h3, h4, h5⟩ := v.good_eq.1 hg
  rw [V.good]
  refine ⟨?_, h2, h3, (goodM_iff _).2 fun p hp => (goodM_iff _).1 h4 p (fdrop_mem hp), risingK_of_rises ((good_rises hg).filter _)⟩
  rw [hk] at h1 ⊢
  simp [kbad] at h1 ⊢
  exact h1
theorem drop_cons {v i : V} {s t : ByteArray} {l : Path} (hg : v.good) (hf : mfind s v.m = some i) : V.drop (s :: t :: l) v = vMap (minsert s (V.drop (t :: l) i) v.m) := by
  rw [V.drop, hf]
  simp only
  rw [rput_eq (good_rises hg)]
theorem drop_one {v i : V} {s : ByteArray} (hf : mfind s v.m = some i) : V.drop [s] v = .mk v.kind v.b v.n v.s v.l (fdrop s v.m) := by
  rw [V.drop, hf]
theorem drop_good : ∀ (p : Path) (v z : V), v.good → (p, z) ∈ v.leaves → p ≠ [] → (V.drop p v).good
  | [], v, z, hg, h, hp => absurd rfl hp
  | [s], v, z, hg, h, hp => by
    obtain ⟨i, hf, hmem, hl, hk⟩ := leaf_path_cons hg h
    rw [drop_one hf]
    exact fdrop_good hg hk
  | s :: t :: l, v, z, hg, h, hp => by
    obtain ⟨i, hf, hmem, hl, hk⟩ := leaf_path_cons hg h
    rw [drop_cons hg hf]
    exact vMap_minsert_good hg (drop_good (t :: l) i z (good_m hg hmem) hl (by simp)) (good_keyB hg hmem)
theorem get_cons (k : ByteArray) (r : Path) (v : V) : V.get (k :: r) v = match mfind k v.m with | none => none | some x => V.get r x := by rw [V.get]; rfl
theorem drop_get : ∀ (p : Path) (v z : V), v.good → (p, z) ∈ v.leaves → p ≠ [] → ∀ q ∈ v.leaves, (V.drop p v).get q.1 = if q.1 = p then none else some q.2
  | [], v, z, hg, h, hp, _, _ => absurd rfl hp
  | s :: l, v, z, hg, h, hp, q, hq => by
    obtain ⟨i, hf, hmem, hl, hk⟩ := leaf_path_cons hg h
    have hm : v.m ≠ [] := fun e => by rw [e] at hmem; cases hmem
    obtain ⟨k, u, r, hp1, hr, rfl⟩ := leaf_split hm hq
    have hu := mfind_mem (good_rises hg) hp1
    have hug := good_m hg hp1
    have hother : k ≠ s → ∀ w : V, mfind k w.m = mfind k v.m → w.get (k :: r.1) = if k :: r.1 = s :: l then none else some r.2 := by
      intro hks w hw
      rw [get_cons, hw, hu, if_neg (fun e => hks (by injection e))]
      exact V.get_leaf hug hr
    cases l with
    | nil =>
      rw [drop_one hf]
      by_cases hks : k = s
      · subst hks
        rw [hf] at hu
        cases hu
        obtain ⟨him, _⟩ := leaf_path_nil hl
        rw [leaf_nil him] at hr
        simp at hr
        subst hr
        rw [if_pos rfl, get_cons, show (V.mk v.kind v.b v.n v.s v.l (fdrop k v.m)).m = fdrop k v.m from rfl, mfind_fdrop, if_pos rfl]
      · exact hother hks _ (by rw [show (V.mk v.kind v.b v.n v.s v.l (fdrop s v.m)).m = fdrop s v.m from rfl, mfind_fdrop, if_neg hks])
    | cons t l =>
      rw [drop_cons hg hf]
      by_cases hks : k = s
      · subst hks
        rw [hf] at hu
        cases hu
        have ih := drop_get (t :: l) i z (good_m hg hmem) hl (by simp) r hr
        rw [get_cons, vMap_m, mfind_minsert (good_rises hg), if_pos rfl]
        simp only
        rw [ih]
        by_cases he : r.1 = t :: l
        · rw [if_pos he, if_pos (by rw [he])]
        · rw [if_neg he, if_neg (fun e => he (by injection e))]
      · exact hother hks _ (by rw [vMap_m, mfind_minsert (good_rises hg), if_neg hks])
/-- P21.1: one that they take away is Gone -/
theorem changes_drop {v z : V} {p : Path} (hg : v.good) (h : (p, z) ∈ v.leaves) (hp : p ≠ []) : ∃ rest, changes (V.drop p v) v = (1, p) :: rest := by
  have hA : chgA (V.drop p v) v.leaves = [(1, p)] := by
    unfold chgA
    rw [filterMap_congr' (g := fun q => if q.1 = p then some (1, p) else none) fun q hq => ?_]
    · exact filterMap_one (nodup_leaves v.size v (Nat.le_refl _) hg) h
    · rw [chg1, drop_get p v z hg h hp q hq]
      by_cases he : q.1 = p
      · simp only [if_pos he]
        rw [he]
      · simp only [if_neg he]
        rw [V.sameB_true.2 rfl]
        rfl
  exact ⟨_, by rw [changes, hA]; rfl⟩
/-- P21.1: one that they add is More, at its path, and nothing else -/
theorem changes_add {v x : V} {key : ByteArray} (hg : v.good) (hm : v.m ≠ []) (hx : x.m = []) (hk : mfind key v.m = none) : changes (vMap (minsert key x v.m)) v = [(3, [key])] := by
  have hnk : ∀ p ∈ v.m, p.1 ≠ key := fun p hp e => by
    have := mfind_mem (good_rises hg) (show (p.1, p.2) ∈ v.m from hp)
    rw [e, hk] at this
    cases this
  have hA : chgA (vMap (minsert key x v.m)) v.leaves = [] := by
    unfold chgA
    rw [List.filterMap_eq_nil_iff]
    intro q hq
    obtain ⟨k, u, r, hp, hr, rfl⟩ := leaf_split hm hq
    have hu := mfind_mem (good_rises hg) hp
    rw [chg1, get_cons, vMap_m, mfind_minsert (good_rises hg), if_neg (hnk _ hp), hu]
    simp only
    rw [V.get_leaf (good_m hg hp) hr]
    simp only
    rw [V.sameB_true.2 rfl]
    rfl
  have own : ∀ q ∈ leavesM v.m, chg3 v.leaves q = none := fun q hq => by
    have : q ∈ v.leaves := by rw [V.leaves_eq, if_neg (by simpa using hm)]; exact hq
    rw [chg3, owned_self this]
    rfl
  have new : chg3 v.leaves ([key], x) = some (3, [key]) := by
    have : owned v.leaves [key] = false := by
      unfold owned
      rw [List.any_eq_false]
      intro w hw
      obtain ⟨k, u, r, hp, hr, rfl⟩ := leaf_split hm hw
      have hne := hnk _ hp
      simp only at hne
      have hne2 : ¬ key = k := fun e => hne e.symm
      simp [begins, hne, hne2]
    rw [chg3, this]
    rfl
  have hB : chgB v.leaves (vMap (minsert key x v.m)).leaves = [(3, [key])] := by
    rw [vMap_leaves (minsert_ne _), minsert_new (bfound_none hk), leavesM_append, leavesM, leaf_nil hx]
    unfold chgB
    rw [List.filterMap_append, List.filterMap_append]
    have hl : ∀ a : List (ByteArray × V), (∀ p ∈ a, p ∈ v.m) → (leavesM a).filterMap (chg3 v.leaves) = [] := fun a ha => by
      rw [List.filterMap_eq_nil_iff]
      intro q hq
      obtain ⟨p, hp, r, hr, e⟩ := mem_leavesM.1 hq
      exact own q (mem_leavesM.2 ⟨p, ha p hp, r, hr, e⟩)
    rw [hl _ fun p hp => List.mem_of_mem_take hp, hl _ fun p hp => List.mem_of_mem_drop hp]
    simp [new]
  rw [changes, hA, hB]
  rfl
theorem minsert_size {s : ByteArray} {i y : V} {m : List (ByteArray × V)} (hr : Rises m) (h : (s, i) ∈ m) : sizeM (minsert s y m) + i.size = sizeM m + y.size := by
  have key : ∀ (m : List (ByteArray × V)) (y : V), Rises m → (s, i) ∈ m → sizeM (minsert s y m) + i.size = sizeM m + y.size := by
      intro m
      induction m with
      | nil => intro y _ h; cases h
      | cons p m ihm =>
        obtain ⟨k, u⟩ := p
        intro y hr hp
        have hc := List.pairwise_cons.1 hr
        rw [minsert]
        rcases List.mem_cons.1 hp with e | hp
        · injection e with e1 e2
          subst e1 e2
          rw [if_neg (by rw [cmpS_eq.2 rfl]; omega), if_pos (cmpS_eq.2 rfl)]
          simp only [sizeM]
          omega
        · rw [if_pos (cmpS_lt.2 (hc.1 (s, i) hp))]
          have := ihm y hc.2 hp
          simp only [sizeM]
          omega
  exact key m y hr h
/-- sizes -/
theorem put_size (x : V) : ∀ (p : Path) (v z : V), v.good → (p, z) ∈ v.leaves → (V.put x p v).size ≤ v.size + x.size
  | [], v, z, hg, h => by rw [V.put]; omega
  | s :: l, v, z, hg, h => by
    obtain ⟨i, hf, hmem, hl, hk⟩ := leaf_path_cons hg h
    have ih := put_size x l i z (good_m hg hmem) hl
    rw [put_cons hg hk hf]
    have hve := v.size_eq
    have h2 := minsert_size (y := V.put x l i) (good_rises hg) hmem
    have : (vMap (minsert s (V.put x l i) v.m)).size = 1 + sizeM (minsert s (V.put x l i) v.m) := by rw [V.size_eq]; simp [vMap, V.l, V.m, sizeL]
    omega
theorem fdrop_size (s : ByteArray) (m : List (ByteArray × V)) : sizeM (fdrop s m) ≤ sizeM m := by
  induction m with
  | nil => simp [fdrop]
  | cons p m ih =>
    obtain ⟨k, u⟩ := p
    by_cases h : k = s
    · have e : fdrop s ((k, u) :: m) = fdrop s m := by simp [fdrop, h]
      rw [e]
      simp only [sizeM]
      omega
    · have e : fdrop s ((k, u) :: m) = (k, u) :: fdrop s m := by simp [fdrop, h]
      rw [e]
      simp only [sizeM]
      omega
theorem drop_size : ∀ (p : Path) (v z : V), v.good → (p, z) ∈ v.leaves → p ≠ [] → (V.drop p v).size ≤ v.size
  | [], v, z, hg, h, hp => absurd rfl hp
  | [s], v, z, hg, h, hp => by
    obtain ⟨i, hf, hmem, hl, hk⟩ := leaf_path_cons hg h
    rw [drop_one hf, V.size]
    have := fdrop_size s v.m
    have := v.size_eq
    omega
  | s :: t :: l, v, z, hg, h, hp => by
    obtain ⟨i, hf, hmem, hl, hk⟩ := leaf_path_cons hg h
    have ih := drop_size (t :: l) i z (good_m hg hmem) hl (by simp)
    rw [drop_cons hg hf]
    have h2 := minsert_size (y := V.drop (t :: l) i) (good_rises hg) hmem
    have : (vMap (minsert s (V.drop (t :: l) i) v.m)).size = 1 + sizeM (minsert s (V.drop (t :: l) i) v.m) := by rw [V.size_eq]; simp [vMap, V.l, V.m, sizeL]
    have := v.size_eq
    omega
end Go.Proofs.Ytamecdecpmklmaa
