/-
  What is merged of anything live and a manifest has nothing gone and nothing other; what it has more, live had: the plain law.
-/
import Derived.Test.YtamecdecpmklmaaLfP
namespace Go.Proofs.Ytamecdecpmklmaa
set_option linter.unusedSimpArgs false
set_option linter.unusedVariables false
open Go.RowKit

mutual
/-- what is live, with what a new manifest has -/
def V.mrg : V → V → V
  | .mk k b n s l m, live => if m.isEmpty then .mk k b n s l m else vMap (mrgM m live.m live.m)
def mrgM : List (ByteArray × V) → List (ByteArray × V) → List (ByteArray × V) → List (ByteArray × V)
  | [], _, out => out
  | (k, x) :: m, lm, out => mrgM m lm (minsert k (V.mrg x ((mfind k lm).getD V.null)) out)
end
theorem mrg_leaf {v live : V} (h : v.m = []) : V.mrg v live = v := by
  cases v
  simp only [V.m] at h
  subst h
  rw [V.mrg]
  rfl
theorem mrg_full {v live : V} (h : v.m ≠ []) : V.mrg v live = vMap (mrgM v.m live.m live.m) := by
  cases v
  simp only [V.m] at h
  rw [V.mrg, if_neg (by simpa using h)]
  rfl
theorem mrgM_append (lm : List (ByteArray × V)) : ∀ (a b out : List (ByteArray × V)), mrgM (a ++ b) lm out = mrgM b lm (mrgM a lm out)
  | [], b, out => by rw [mrgM]; rfl
  | (k, x) :: a, b, out => by rw [List.cons_append, mrgM, mrgM, mrgM_append]
theorem mrgM_take {lm out m : List (ByteArray × V)} {i : Nat} {k : ByteArray} {x : V} (h : m[i]? = some (k, x)) : mrgM (m.take (i + 1)) lm out = minsert k (V.mrg x ((mfind k lm).getD V.null)) (mrgM (m.take i) lm out) := by
  rw [take_snoc h, mrgM_append, mrgM, mrgM]
theorem mrgM_rises {lm : List (ByteArray × V)} : ∀ {m out : List (ByteArray × V)}, Rises out → Rises (mrgM m lm out)
  | [], out, h => by rw [mrgM]; exact h
  | (k, x) :: m, out, h => by rw [mrgM]; exact mrgM_rises (minsert_rises h)
theorem mrgM_find {lm : List (ByteArray × V)} (k : ByteArray) : ∀ {m out : List (ByteArray × V)}, Rises m → Rises out → mfind k (mrgM m lm out) = match mfind k m with
    | some x => some (V.mrg x ((mfind k lm).getD V.null))
    | none => mfind k out
  | [], out, _, ho => by rw [mrgM, mfind]
  | (a, x) :: m, out, h, ho => by
    have hc := List.pairwise_cons.1 h
    rw [mrgM, mrgM_find k hc.2 (minsert_rises ho), mfind_minsert ho]
    by_cases e : a = k
    · subst e
      have hn : mfind a m = none := by
        cases hf : mfind a m with
        | none => rfl
        | some y => exact absurd rfl (klt_ne (hc.1 (a, y) (mem_of_mfind hf)))
      rw [hn, mfind, if_pos rfl]
      simp only [if_pos]
    · rw [mfind, if_neg e, if_neg fun e' => e e'.symm]
theorem mrgM_mem {lm : List (ByteArray × V)} : ∀ {m out : List (ByteArray × V)} {p : ByteArray × V}, p ∈ mrgM m lm out → p ∈ out ∨ ∃ x, (p.1, x) ∈ m ∧ p.2 = V.mrg x ((mfind p.1 lm).getD V.null)
  | [], out, p, h => by rw [mrgM] at h; exact .inl h
  | (a, x) :: m, out, p, h => by
    rw [mrgM] at h
    rcases mrgM_mem h with h | ⟨y, hy, e⟩
    · rcases minsert_mem h with rfl | h
      · exact .inr ⟨x, by simp, rfl⟩
      · exact .inl h
    · exact .inr ⟨y, by simp [hy], e⟩
theorem mrgM_ne {lm m out : List (ByteArray × V)} (h : m ≠ []) : mrgM m lm out ≠ [] := by
  cases m with
  | nil => exact absurd rfl h
  | cons p m =>
    obtain ⟨k, x⟩ := p
    rw [mrgM]
    have : ∀ (m out : List (ByteArray × V)), out ≠ [] → mrgM m lm out ≠ [] := by
      intro m
      induction m with
      | nil => intro out h; rw [mrgM]; exact h
      | cons p m ih => intro out h; obtain ⟨k, x⟩ := p; rw [mrgM]; exact ih _ (minsert_ne _)
    exact this _ _ (minsert_ne _)
theorem mrg_ne {v live : V} (h : v.m ≠ []) : (V.mrg v live).m ≠ [] := by
  rw [mrg_full h, vMap_m]
  exact mrgM_ne h
theorem null_good : V.null.good := by
  rw [V.good_eq]
  exact ⟨by decide, by decide, trivial, trivial, trivial⟩
theorem mrg_live {live : V} (hl : live.good) (k : ByteArray) : ((mfind k live.m).getD V.null).good := by
  cases hf : mfind k live.m with
  | none => exact null_good
  | some y => exact good_m hl (mem_of_mfind hf)
theorem mrg_good : ∀ (n : Nat) (v live : V), v.size ≤ n → v.good → live.good → (V.mrg v live).good := by
  intro n
  induction n with
  | zero => intro v live h; have := v.size_pos; omega
  | succ n ih =>
    intro v live h hv hl
    by_cases hm : v.m = []
    · rw [mrg_leaf hm]; exact hv
    · rw [mrg_full hm]
      refine vMap_good (fun p hp => ?_) (risingK_of_rises (mrgM_rises (good_rises hl)))
      rcases mrgM_mem hp with hp | ⟨x, hx, e⟩
      · exact ⟨good_keyB hl hp, good_m hl hp⟩
      · have := V.mem_size hx
        rw [e]
        exact ⟨good_keyB (p := (p.1, x)) hv hx, ih x _ (by simp only at this; omega) (good_m hv hx) (mrg_live hl _)⟩
theorem null_size : V.null.size = 1 := by rw [V.size_eq]; rfl
theorem mrg_size_all : ∀ (n : Nat), (∀ v live : V, v.size ≤ n → v.good → live.good → (V.mrg v live).size + 1 ≤ v.size + live.size) ∧
    ∀ (m : List (ByteArray × V)) (lm out : List (ByteArray × V)), sizeM m < n → (∀ p ∈ m, p.2.good) → Rises m → (∀ k, ((mfind k lm).getD V.null).good) → Rises out → (∀ p ∈ m, mfind p.1 out = mfind p.1 lm) → sizeM (mrgM m lm out) ≤ sizeM out + sizeM m := by
  intro n
  induction n with
  | zero => exact ⟨fun v live h => by have := v.size_pos; omega, fun m lm out h => by omega⟩
  | succ n ih =>
    have hM : ∀ (m : List (ByteArray × V)) (lm out : List (ByteArray × V)), sizeM m < n + 1 → (∀ p ∈ m, p.2.good) → Rises m → (∀ k, ((mfind k lm).getD V.null).good) → Rises out → (∀ p ∈ m, mfind p.1 out = mfind p.1 lm) → sizeM (mrgM m lm out) ≤ sizeM out + sizeM m := by
      intro m
      induction m with
      | nil => intro lm out _ _ _ _ _ _; rw [mrgM]; omega
      | cons p m ihm =>
        obtain ⟨k, x⟩ := p
        intro lm out hs hg hr hl ho hf
        have hc := List.pairwise_cons.1 hr
        have hxp := x.size_pos
        simp only [sizeM] at hs
        have h1 := (ih.1 x ((mfind k lm).getD V.null) (by omega) (hg (k, x) (by simp)) (hl k))
        have hk := hf (k, x) (by simp)
        simp only at hk
        have h2 := ihm lm (minsert k (V.mrg x ((mfind k lm).getD V.null)) out) (by omega) (fun p hp => hg p (by simp [hp])) hc.2 hl (minsert_rises ho) (fun p hp => by
          rw [mfind_minsert ho, if_neg fun e => klt_ne (hc.1 p hp) e.symm]
          exact hf p (by simp [hp]))
        have h3 : sizeM (minsert k (V.mrg x ((mfind k lm).getD V.null)) out) ≤ sizeM out + x.size := by
          cases hq : mfind k lm with
          | none =>
            rw [hq] at h1
            have h4 := (minsert_bound (key := k) (x := V.mrg x V.null) out).1
            simp only [Option.getD_none] at h1 ⊢
            rw [null_size] at h1
            omega
          | some i =>
            rw [hq] at h1 hk
            have h4 := minsert_size (y := V.mrg x i) ho (mem_of_mfind hk)
            simp only [Option.getD_some] at h1 ⊢
            omega
        rw [mrgM]
        simp only [sizeM]
        omega
    refine ⟨fun v live h hv hl => ?_, hM⟩
    have hvs := v.size_eq
    have hls := live.size_eq
    by_cases hm : v.m = []
    · rw [mrg_leaf hm]
      omega
    · rw [mrg_full hm]
      have h1 := hM v.m live.m live.m (by omega) (fun p hp => good_m hv hp) (good_rises hv) (mrg_live hl) (good_rises hl) (fun _ _ => rfl)
      have : (vMap (mrgM v.m live.m live.m)).size = 1 + sizeM (mrgM v.m live.m live.m) := by rw [V.size_eq]; simp [vMap, V.l, V.m, sizeL]
      omega
theorem mrg_size {v live : V} (hv : v.good) (hl : live.good) : (V.mrg v live).size ≤ v.size + live.size := by
  have := (mrg_size_all v.size).1 v live (Nat.le_refl _) hv hl
  omega
theorem mrgM_size {v live : V} (hv : v.good) (hl : live.good) (k : Nat) : sizeM (mrgM (v.m.take k) live.m live.m) ≤ sizeM live.m + v.size := by
  have h1 := sizeM_take_le v.m k
  have h2 := v.size_eq
  have := (mrg_size_all (v.size + 1)).2 (v.m.take k) live.m live.m (by omega) (fun p hp => good_m hv (List.mem_of_mem_take hp)) ((good_rises hv).sublist (List.take_sublist _ _)) (mrg_live hl) (good_rises hl) (fun _ _ => rfl)
  omega
theorem get_cons' (k : ByteArray) (r : Path) (v : V) : V.get (k :: r) v = match mfind k v.m with | none => none | some x => V.get r x := by rw [V.get]; rfl
/-- the manifest's leaves are in what is merged -/
theorem mrg_has : ∀ (n : Nat) (v live : V), v.size ≤ n → v.good → live.good → ∀ q ∈ v.leaves, (V.mrg v live).get q.1 = some q.2 := by
  intro n
  induction n with
  | zero => intro v live h; have := v.size_pos; omega
  | succ n ih =>
    intro v live h hv hl q hq
    by_cases hm : v.m = []
    · rw [mrg_leaf hm]; exact V.get_leaf hv hq
    · obtain ⟨k, u, r, hp, hr, rfl⟩ := leaf_split hm hq
      have := V.mem_size hp
      rw [mrg_full hm, get_cons', vMap_m, mrgM_find k (good_rises hv) (good_rises hl), mfind_mem (good_rises hv) hp]
      exact ih u _ (by simp only at this; omega) (good_m hv hp) (mrg_live hl _) r hr
/-- what is nobody's in what is merged was live -/
theorem mrg_was : ∀ (n : Nat) (v live : V), v.size ≤ n → v.good → live.good → ∀ q ∈ (V.mrg v live).leaves, owned v.leaves q.1 = false → live.get q.1 = some q.2 := by
  intro n
  induction n with
  | zero => intro v live h; have := v.size_pos; omega
  | succ n ih =>
    intro v live h hv hl q hq ho
    have hown : ∀ w ∈ v.leaves, begins q.1 w.1 = false ∧ begins w.1 q.1 = false := fun w hw => by
      unfold owned at ho
      rw [List.any_eq_false] at ho
      simpa using ho w hw
    by_cases hm : v.m = []
    · have := (hown ([], v) (by rw [leaf_nil hm]; simp)).1
      simp [begins] at this
    · obtain ⟨k, u, r, hp, hr, rfl⟩ := leaf_split (mrg_ne hm) hq
      have hrr := mrgM_rises (lm := live.m) (m := v.m) (good_rises hl)
      rw [mrg_full hm, vMap_m] at hp
      have hu := mfind_mem hrr hp
      rw [mrgM_find k (good_rises hv) (good_rises hl)] at hu
      cases hf : mfind k v.m with
      | none =>
        rw [hf] at hu
        simp only at hu
        rw [get_cons', hu]
        exact V.get_leaf (good_m hl (mem_of_mfind hu)) hr
      | some x =>
        rw [hf] at hu
        simp only [Option.some.injEq] at hu
        have hx := mem_of_mfind hf
        have hsz := V.mem_size hx
        simp only at hsz
        have ho' : owned x.leaves r.1 = false := by
          unfold owned
          rw [List.any_eq_false]
          intro w hw
          have h2 := hown _ (leaf_join hx hw)
          simp only [begins, decide_true, Bool.true_and] at h2
          simp [h2.1, h2.2]
        have hg := ih x ((mfind k live.m).getD V.null) (by omega) (good_m hv hx) (mrg_live hl k) r (by rw [hu]; exact hr) ho'
        rw [get_cons']
        cases hq : mfind k live.m with
        | some y => rw [hq] at hg; exact hg
        | none =>
          exfalso
          rw [hq] at hg
          cases hr1 : r.1 with
          | nil =>
            obtain ⟨w, hw⟩ := List.exists_mem_of_length_pos (leaves_pos x.size x (Nat.le_refl _))
            have h2 := (hown _ (leaf_join hx hw)).2
            rw [hr1] at h2
            simp [begins] at h2
          | cons a l =>
            rw [hr1, get_cons'] at hg
            exact absurd hg (by simp [V.null, V.m, mfind])
theorem mrg_changes {live want : V} (hl : live.good) (hw : want.good) : ∀ q ∈ changes (V.mrg want live) want, q.1 = 3 ∧ ∃ z, (V.mrg want live).get q.2 = some z ∧ live.get q.2 = some z := by
  intro q hq
  unfold changes at hq
  rcases List.mem_append.1 hq with hq | hq
  · unfold chgA at hq
    obtain ⟨w, hw1, hw2⟩ := List.mem_filterMap.1 hq
    rw [chg1, mrg_has want.size want live (Nat.le_refl _) hw hl w hw1] at hw2
    simp only [V.sameB_true.2 rfl, if_true] at hw2
    cases hw2
  · unfold chgB at hq
    obtain ⟨w, hw1, hw2⟩ := List.mem_filterMap.1 hq
    rw [chg3] at hw2
    split at hw2
    · cases hw2
    · rename_i ho
      cases hw2
      exact ⟨rfl, w.2, V.get_leaf (mrg_good want.size want live (Nat.le_refl _) hw hl) hw1, mrg_was want.size want live (Nat.le_refl _) hw hl w hw1 (by simpa using ho)⟩
end Go.Proofs.Ytamecdecpmklmaa
