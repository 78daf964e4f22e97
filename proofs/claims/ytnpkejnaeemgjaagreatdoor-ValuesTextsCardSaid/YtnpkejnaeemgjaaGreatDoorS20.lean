/-
  The texts that the claim wants, one behind the other: part 20.
-/
import Derived.Test.YtnpkejnaeemgjaaGreatDoorS19
import Derived.Lib.Strings
set_option linter.unusedSimpArgs false
set_option linter.unusedVariables false
namespace Go.Proofs.YtnpkejnaeemgjaaGreatDoor
open Go.RowKit
def vMap (m : List (ByteArray × V)) : V := .mk 5 false 0 ⟨#[]⟩ [] m
theorem vMap_size (m : List (ByteArray × V)) : (vMap m).size = 1 + sizeM m := by simp [vMap, V.size, sizeL]
theorem null_size : V.null.size = 1 := by rw [V.size_eq]; rfl
mutual
def V.ord : V → Prop
 | .mk k b n s l m => (k = 5 → b = false ∧ n = 0 ∧ s = ⟨#[]⟩ ∧ l = []) ∧ (k ≠ 5 → m = []) ∧ Rises m ∧ ordM m
def ordM : List (ByteArray × V) → Prop
 | [] => True
 | (_, x) :: m => x.ord ∧ ordM m
end
theorem ordM_iff (m : List (ByteArray × V)) : ordM m ↔ ∀ p ∈ m, p.2.ord := by
 induction m with
 | nil => simp [ordM]
 | cons p m ih => obtain ⟨y, x⟩ := p; rw [ordM, ih, List.forall_mem_cons]
theorem V.ord_eq (v : V) : v.ord ↔ (v.kind = 5 → v = vMap v.m) ∧ (v.kind ≠ 5 → v.m = []) ∧ Rises v.m ∧ ∀ p ∈ v.m, p.2.ord := by
 cases v with
 | mk k b n s l m =>
  rw [V.ord, ordM_iff]
  refine and_congr (imp_congr_right fun hk => ?_) Iff.rfl
  have hk : k = 5 := hk
  subst hk
  simp only [vMap, V.mk.injEq, V.m, and_true, true_and]
theorem null_ord : V.null.ord := by
 refine (V.ord_eq _).2 ⟨fun h => ?_, fun _ => rfl, List.Pairwise.nil, fun p h => by cases h⟩
 exact absurd h (by decide)
theorem vMap_ord {m : List (ByteArray × V)} (hr : Rises m) (h : ∀ p ∈ m, p.2.ord) : (vMap m).ord := (V.ord_eq _).2 ⟨fun _ => rfl, fun h => absurd rfl h, hr, h⟩
theorem good_ord_all : ∀ (n : Nat) (v : V), v.size ≤ n → v.good → v.ord := by
 intro n
 induction n with
 | zero => intro v h; have := v.size_pos; omega
 | succ n ih =>
  intro v h hg
  have hve := v.size_eq
  refine (V.ord_eq v).2 ⟨fun hk => ?_, fun hk => good_nomap hg hk, good_rises hg, fun p hp => ?_⟩
  ·have hb := (v.good_eq.1 hg).1
   cases v with
   | mk k b n s l m =>
    simp only [V.kind] at hk
    subst hk
    simp only [V.kind, V.b, V.n, V.s, V.l, V.m, kbad] at hb
    simp at hb
    simp only [vMap, V.m]
    obtain ⟨⟨⟨h1, h2⟩, h3⟩, h4⟩ := hb
    have e2 : n = 0 := Decidable.not_not.1 (of_decide_eq_false h2)
    have e3 : s = ⟨#[]⟩ := Decidable.not_not.1 (of_decide_eq_false h3)
    have e4 : l = [] := List.length_eq_zero_iff.1 (by have := of_decide_eq_false h4; omega)
    rw [h1, e2, e3, e4]
  ·obtain ⟨y, x⟩ := p
   have := mem_sizeM hp
   simp only at this
   exact ih x (by omega) (good_m hg hp)
theorem V.good.ord {v : V} (h : v.good) : v.ord := good_ord_all v.size v (Nat.le_refl _) h
def stripM (f : V → V) (m : List (ByteArray × V)) : List (ByteArray × V) := m.filterMap fun p => if p.2.kind = 0 then none else some (p.1, f p.2)
def stripN : Nat → V → V
 | 0, v => v
 | n + 1, v => if v.kind = 5 then vMap (stripM (stripN n) v.m) else v
theorem stripM_take {f : V → V} {m : List (ByteArray × V)} {k : Nat} {p : ByteArray × V} (h : m[k]? = some p) : stripM f (m.take (k + 1)) = stripM f (m.take k) ++ (if p.2.kind = 0 then [] else [(p.1, f p.2)]) := by
 rw [stripM, take_snoc h, List.filterMap_append]
 by_cases hp : p.2.kind = 0 <;> simp [stripM, hp]
theorem stripM_mem {f : V → V} {m : List (ByteArray × V)} {q : ByteArray × V} (h : q ∈ stripM f m) : ∃ x, (q.1, x) ∈ m ∧ q.2 = f x := by
 obtain ⟨p, hp, e⟩ := List.mem_filterMap.1 h
 split at e
 ·cases e
 ·cases e; exact ⟨p.2, hp, rfl⟩
theorem stripM_rises {f : V → V} {m : List (ByteArray × V)} (h : Rises m) : Rises (stripM f m) := by
 induction m with
 | nil => exact List.Pairwise.nil
 | cons p m ih =>
  have hc := List.pairwise_cons.1 h
  rw [stripM, List.filterMap_cons]
  split
  ·exact ih hc.2
  ·rename_i q e
   split at e
   ·cases e
   ·cases e
    refine List.pairwise_cons.2 ⟨fun q hq => ?_, ih hc.2⟩
    obtain ⟨x, hx, _⟩ := stripM_mem hq
    exact hc.1 (q.1, x) hx
theorem stripM_size {f : V → V} {m : List (ByteArray × V)} (h : ∀ p ∈ m, (f p.2).size ≤ p.2.size) : sizeM (stripM f m) ≤ sizeM m := by
 induction m with
 | nil => exact Nat.le_refl _
 | cons p m ih =>
  obtain ⟨y, x⟩ := p
  have h1 := h (y, x) (by simp)
  have := ih fun p hp => h p (by simp [hp])
  rw [stripM, List.filterMap_cons]
  simp only
  split
  ·rw [sizeM]
   exact Nat.le_trans this (Nat.le_add_left _ _)
  ·rename_i q e
   split at e
   ·cases e
   ·cases e
    simp only [sizeM]
    simp only at h1
    rw [stripM] at this
    omega
theorem strip_facts : ∀ (n : Nat) (v : V), v.size ≤ n → v.ord → (stripN n v).ord ∧ (stripN n v).size ≤ v.size := by
 intro n
 induction n with
 | zero => intro v h; have := v.size_pos; omega
 | succ n ih =>
  intro v h ho
  have hve := v.size_eq
  rw [stripN]
  split
  ·have hin : ∀ p ∈ v.m, (stripN n p.2).ord ∧ (stripN n p.2).size ≤ p.2.size := fun p hp => by
    have := mem_sizeM (p := p) hp
    exact ih p.2 (by omega) (((V.ord_eq v).1 ho).2.2.2 p hp)
   refine ⟨vMap_ord (stripM_rises ((V.ord_eq v).1 ho).2.2.1) fun q hq => ?_, ?_⟩
   ·obtain ⟨x, hx, e⟩ := stripM_mem hq
    rw [e]; exact (hin _ hx).1
   ·rw [vMap_size]
    have := stripM_size (f := stripN n) (m := v.m) fun p hp => (hin p hp).2
    omega
  ·exact ⟨ho, Nat.le_refl _⟩
def fdrop (key : ByteArray) (m : List (ByteArray × V)) : List (ByteArray × V) := m.filter fun p => !decide (p.1 = key)
def stepO (f : V → V → V) (m : List (ByteArray × V)) (p : ByteArray × V) : List (ByteArray × V) :=
 if p.2.kind = 0 then fdrop p.1 m else minsert p.1 (f ((mfind p.1 m).getD V.null) p.2) m
def foldO (f : V → V → V) (a b : List (ByteArray × V)) : List (ByteArray × V) := b.foldl (stepO f) a
def mergeO (f : V → V → V) : List (ByteArray × V) → List (ByteArray × V) → List (ByteArray × V)
 | [], [] => []
 | [], (k, x) :: b => if x.kind = 0 then mergeO f [] b else (k, f V.null x) :: mergeO f [] b
 | (ka, xa) :: a, [] => (ka, xa) :: mergeO f a []
 | (ka, xa) :: a, (k, x) :: b =>
  if cmpS ka k < 0 then (ka, xa) :: mergeO f a ((k, x) :: b)
  else if ka = k then (if x.kind = 0 then mergeO f a b else (k, f xa x) :: mergeO f a b)
  else (if x.kind = 0 then mergeO f ((ka, xa) :: a) b else (k, f V.null x) :: mergeO f ((ka, xa) :: a) b)
termination_by a b => a.length + b.length
def overN : Nat → V → V → V
 | 0, _, b => b
 | n + 1, a, b => if a.kind = 5 ∧ b.kind = 5 then vMap (mergeO (overN n) a.m b.m) else stripN (n + 1) b
theorem foldO_take {f : V → V → V} {a b : List (ByteArray × V)} {k : Nat} {p : ByteArray × V} (h : b[k]? = some p) : foldO f a (b.take (k + 1)) = stepO f (foldO f a (b.take k)) p := by
 rw [foldO, take_snoc h, List.foldl_append]; rfl
theorem fdrop_rises {key : ByteArray} {m : List (ByteArray × V)} (h : Rises m) : Rises (fdrop key m) := List.Pairwise.filter _ h
theorem stepO_rises {f : V → V → V} {m : List (ByteArray × V)} (h : Rises m) (p : ByteArray × V) : Rises (stepO f m p) := by
 unfold stepO
 split
 ·exact fdrop_rises h
 ·exact minsert_rises h
theorem foldO_rises {f : V → V → V} : ∀ (b a : List (ByteArray × V)), Rises a → Rises (foldO f a b)
 | [], _, h => h
 | p :: b, _, h => foldO_rises b _ (stepO_rises h p)
theorem stepO_cons {f : V → V → V} {ka : ByteArray} {xa : V} {m : List (ByteArray × V)} {p : ByteArray × V} (h : klt ka p.1) : stepO f ((ka, xa) :: m) p = (ka, xa) :: stepO f m p := by
 have hne := klt_ne h
 unfold stepO
 split
 ·simp [fdrop, hne]
 ·rw [minsert, if_pos (cmpS_lt.2 h), mfind, if_neg hne]
theorem foldO_cons {f : V → V → V} {ka : ByteArray} {xa : V} : ∀ (b m : List (ByteArray × V)), (∀ p ∈ b, klt ka p.1) → foldO f ((ka, xa) :: m) b = (ka, xa) :: foldO f m b
 | [], _, _ => rfl
 | p :: b, m, h => by
  show foldO f (stepO f ((ka, xa) :: m) p) b = (ka, xa) :: foldO f (stepO f m p) b
  rw [stepO_cons (h p (by simp)), foldO_cons b _ fun q hq => h q (by simp [hq])]
theorem fdrop_none {key : ByteArray} {m : List (ByteArray × V)} (h : ∀ p ∈ m, p.1 ≠ key) : fdrop key m = m := by
 rw [fdrop, List.filter_eq_self]
 intro p hp
 simp [h p hp]
theorem mfind_no {key : ByteArray} : ∀ {m : List (ByteArray × V)}, (∀ p ∈ m, p.1 ≠ key) → mfind key m = none
 | [], _ => rfl
 | (y, x) :: m, h => by rw [mfind, if_neg (h (y, x) (by simp)), mfind_no fun p hp => h p (by simp [hp])]
theorem minsert_first {key : ByteArray} {x : V} {m : List (ByteArray × V)} (h : ∀ p ∈ m, klt key p.1) : minsert key x m = (key, x) :: m := by
 cases m with
 | nil => rfl
 | cons p m =>
  obtain ⟨y, z⟩ := p
  have hk : klt key y := h (y, z) (by simp)
  rw [minsert, if_neg (fun e => klt_ne (klt_trans hk (cmpS_lt.1 e)) rfl), if_neg (fun e => klt_ne hk (cmpS_eq.1 e).symm)]
theorem foldO_merge {f : V → V → V} : ∀ (n : Nat) (a b : List (ByteArray × V)), a.length + b.length ≤ n → Rises a → Rises b → foldO f a b = mergeO f a b := by
 intro n
 induction n with
 | zero =>
  intro a b h _ _
  have h1 : a = [] := List.length_eq_zero_iff.1 (by omega)
  have h2 : b = [] := List.length_eq_zero_iff.1 (by omega)
  subst h1 h2
  rw [mergeO]; rfl
 | succ n ih =>
  intro a b h ha hb
  cases b with
  | nil =>
   cases a with
   | nil => rw [mergeO]; rfl
   | cons p a =>
    obtain ⟨ka, xa⟩ := p
    have hc := List.pairwise_cons.1 ha
    rw [mergeO, ← ih a [] (by simp at h ⊢; omega) hc.2 List.Pairwise.nil]
    rfl
  | cons q b =>
   obtain ⟨k, x⟩ := q
   have hcb := List.pairwise_cons.1 hb
   have hgt : ∀ p ∈ b, klt k p.1 := fun p hp => hcb.1 p hp
   cases a with
   | nil =>
    rw [mergeO]
    show foldO f (stepO f [] (k, x)) b = _
    unfold stepO
    by_cases hx : x.kind = 0
    ·rw [if_pos hx, if_pos hx, ← ih [] b (by simp at h ⊢; omega) List.Pairwise.nil hcb.2]
     rfl
    ·rw [if_neg hx, if_neg hx, ← ih [] b (by simp at h ⊢; omega) List.Pairwise.nil hcb.2]
     exact foldO_cons b [] hgt
   | cons p a =>
    obtain ⟨ka, xa⟩ := p
    have hca := List.pairwise_cons.1 ha
    rw [mergeO]
    by_cases hlt : cmpS ka k < 0
    ·have hk := cmpS_lt.1 hlt
     rw [if_pos hlt, ← ih a ((k, x) :: b) (by simp at h ⊢; omega) hca.2 hb]
     exact foldO_cons _ _ fun q hq => by
      rcases List.mem_cons.1 hq with rfl | hq
      ·exact hk
      ·exact klt_trans hk (hgt q hq)
    ·rw [if_neg hlt]
     show foldO f (stepO f ((ka, xa) :: a) (k, x)) b = _
     by_cases he : ka = k
     ·subst he
      have hna : ∀ p ∈ a, p.1 ≠ ka := fun p hp e => klt_ne (hca.1 p hp) e.symm
      rw [if_pos rfl]
      unfold stepO
      by_cases hx : x.kind = 0
      ·rw [if_pos hx, if_pos hx, ← ih a b (by simp at h ⊢; omega) hca.2 hcb.2]
       congr 1
       have := fdrop_none hna
       simp only [fdrop] at this ⊢
       simp [this]
      ·rw [if_neg hx, if_neg hx, ← ih a b (by simp at h ⊢; omega) hca.2 hcb.2, minsert, if_neg hlt, if_pos (cmpS_eq.2 rfl)]
       simp only [mfind, if_pos, Option.getD_some]
       exact foldO_cons b a hgt
     ·have hk := klt_tri hlt (fun e => he (cmpS_eq.1 e))
      have hgt' : ∀ p ∈ (ka, xa) :: a, klt k p.1 := fun p hp => by
       rcases List.mem_cons.1 hp with rfl | hp
       ·exact hk
       ·exact klt_trans hk (hca.1 p hp)
      have hna : ∀ p ∈ (ka, xa) :: a, p.1 ≠ k := fun p hp e => klt_ne (hgt' p hp) e.symm
      rw [if_neg he]
      unfold stepO
      by_cases hx : x.kind = 0
      ·rw [if_pos hx, if_pos hx, ← ih ((ka, xa) :: a) b (by simp at h ⊢; omega) ha hcb.2]
       simp only
       rw [fdrop_none hna]
      ·rw [if_neg hx, if_neg hx, ← ih ((ka, xa) :: a) b (by simp at h ⊢; omega) ha hcb.2]
       simp only
       rw [mfind_no hna, minsert_first hgt']
       exact foldO_cons b _ hgt
end Go.Proofs.YtnpkejnaeemgjaaGreatDoor
/-
 A value laid over another one: how much it has; paths. No program in sight.
-/
namespace Go.Proofs.YtnpkejnaeemgjaaGreatDoor
open Go.RowKit
theorem minsert_size {s : ByteArray} {i y : V} {m : List (ByteArray × V)} (hr : Rises m) (h : (s, i) ∈ m) : sizeM (minsert s y m) + i.size = sizeM m + y.size := by
 have key : ∀ (m : List (ByteArray × V)) (y : V), Rises m → (s, i) ∈ m → sizeM (minsert s y m) + i.size = sizeM m + y.size := by
   intro m
   induction m with
   | nil => intro y _ h; cases h
   | cons p m ihm =>
    obtain ⟨k, u⟩ := p
    intro y hr hp
    have hc := List.pairwise_cons.1 hr
    rw [minsert]
    rcases List.mem_cons.1 hp with e | hp
    ·injection e with e1 e2
     subst e1 e2
     rw [if_neg (by rw [cmpS_eq.2 rfl]; omega), if_pos (cmpS_eq.2 rfl)]
     simp only [sizeM]
     omega
    ·rw [if_pos (cmpS_lt.2 (hc.1 (s, i) hp))]
     have := ihm y hc.2 hp
     simp only [sizeM]
     omega
 exact key m y hr h
theorem fdrop_size (key : ByteArray) (m : List (ByteArray × V)) : sizeM (fdrop key m) ≤ sizeM m := by
 induction m with
 | nil => exact Nat.le_refl _
 | cons p m ih =>
  obtain ⟨y, x⟩ := p
  rw [fdrop] at ih ⊢
  rw [List.filter_cons]
  split
  ·simp only [sizeM]; omega
  ·simp only [sizeM]; omega
theorem mfind_in : ∀ {m : List (ByteArray × V)} {k : ByteArray} {x : V}, mfind k m = some x → (k, x) ∈ m
 | (y, z) :: m, k, x, h => by
  rw [mfind] at h
  split at h
  ·rename_i e
   cases h
   subst e
   exact List.mem_cons_self
  ·exact List.mem_cons_of_mem _ (mfind_in h)
def OvOk (f : V → V → V) (x : V) : Prop := ∀ u : V, u.ord → (f u x).ord ∧ (f u x).size + 1 ≤ u.size + 2 * x.size
theorem was_ord {m : List (ByteArray × V)} (h : ∀ p ∈ m, p.2.ord) (k : ByteArray) : ((mfind k m).getD V.null).ord := by
 cases hf : mfind k m with
 | none => exact null_ord
 | some u => exact h _ (mfind_in hf)
theorem stepO_facts {f : V → V → V} {m : List (ByteArray × V)} {p : ByteArray × V} (hf : OvOk f p.2) (hr : Rises m) (ho : ∀ q ∈ m, q.2.ord) : (∀ q ∈ stepO f m p, q.2.ord) ∧ sizeM (stepO f m p) ≤ sizeM m + 2 * p.2.size := by
 unfold stepO
 split
 ·refine ⟨fun q hq => ho q (List.mem_filter.1 hq).1, ?_⟩
  have := fdrop_size p.1 m
  omega
 ·have h1 := hf _ (was_ord ho p.1)
  refine ⟨fun q hq => ?_, ?_⟩
  ·rcases minsert_mem hq with rfl | hq
   ·exact h1.1
   ·exact ho q hq
  ·cases hm : mfind p.1 m with
   | none =>
    rw [hm] at h1
    simp only [Option.getD_none, null_size] at h1 ⊢
    have := (minsert_bound (key := p.1) (x := f V.null p.2) m).1
    omega
   | some u =>
    rw [hm] at h1
    simp only [Option.getD_some] at h1 ⊢
    have := minsert_size (y := f u p.2) hr (mfind_in hm)
    omega
theorem foldO_facts {f : V → V → V} : ∀ (b a : List (ByteArray × V)), (∀ p ∈ b, OvOk f p.2) → Rises a → (∀ q ∈ a, q.2.ord) → (∀ q ∈ foldO f a b, q.2.ord) ∧ sizeM (foldO f a b) ≤ sizeM a + 2 * sizeM b
 | [], a, _, _, ho => ⟨ho, by simp [foldO, sizeM]⟩
 | p :: b, a, hf, hr, ho => by
  have h1 := stepO_facts (hf p (by simp)) hr ho
  have h2 := foldO_facts b (stepO f a p) (fun q hq => hf q (by simp [hq])) (stepO_rises hr p) h1.1
  refine ⟨h2.1, ?_⟩
  have h3 := h2.2
  have e : sizeM (p :: b) = p.2.size + sizeM b := by obtain ⟨y, x⟩ := p; rfl
  rw [e]
  show sizeM (foldO f (stepO f a p) b) ≤ _
  omega
theorem over_facts : ∀ (n : Nat) (a b : V), b.size ≤ n → a.ord → b.ord → (overN n a b).ord ∧ (overN n a b).size + 1 ≤ a.size + 2 * b.size := by
 intro n
 induction n with
 | zero => intro a b h; have := b.size_pos; omega
 | succ n ih =>
  intro a b h ha hb
  have hae := a.size_eq
  have hbe := b.size_eq
  rw [overN]
  split
  ·have ha' := (V.ord_eq a).1 ha
   have hb' := (V.ord_eq b).1 hb
   have hin : ∀ p ∈ b.m, OvOk (overN n) p.2 := fun p hp u hu => by
    have := mem_sizeM (p := p) hp
    exact ih u p.2 (by omega) hu (hb'.2.2.2 p hp)
   have hf := foldO_facts (f := overN n) b.m a.m hin ha'.2.2.1 ha'.2.2.2
   rw [← foldO_merge _ a.m b.m (Nat.le_refl _) ha'.2.2.1 hb'.2.2.1]
   refine ⟨vMap_ord (foldO_rises _ _ ha'.2.2.1) hf.1, ?_⟩
   rw [vMap_size]
   omega
  ·have hs := strip_facts (n + 1) b (by omega) hb
   refine ⟨hs.1, ?_⟩
   have := b.size_pos
   have := a.size_pos
   omega
theorem foldO_le {n : Nat} {a b : V} (k : Nat) (h : b.size ≤ n + 1) (ha : a.ord) (hb : b.ord) : Rises (foldO (overN n) a.m (b.m.take k)) ∧ (∀ q ∈ foldO (overN n) a.m (b.m.take k), q.2.ord) ∧ sizeM (foldO (overN n) a.m (b.m.take k)) ≤ sizeM a.m + 2 * sizeM b.m := by
 have ha' := (V.ord_eq a).1 ha
 have hb' := (V.ord_eq b).1 hb
 have hbe := b.size_eq
 have hin : ∀ p ∈ b.m.take k, OvOk (overN n) p.2 := fun p hp u hu => by
  have hp := List.mem_of_mem_take hp
  have := mem_sizeM (p := p) hp
  exact over_facts n u p.2 (by omega) hu (hb'.2.2.2 p hp)
 have hf := foldO_facts (f := overN n) (b.m.take k) a.m hin ha'.2.2.1 ha'.2.2.2
 refine ⟨foldO_rises _ _ ha'.2.2.1, hf.1, ?_⟩
 have := sizeM_take_le b.m k
 omega
def nest (x : V) : List ByteArray → V
 | [] => x
 | s :: l => vMap [(s, nest x l)]
theorem nest_ord {x : V} (hx : x.ord) : ∀ l, (nest x l).ord
 | [] => hx
 | s :: l => vMap_ord (List.pairwise_singleton _ _) fun p hp => by
  rw [List.mem_singleton.1 hp]
  exact nest_ord hx l
theorem nest_size (x : V) : ∀ l, (nest x l).size = x.size + l.length
 | [] => rfl
 | s :: l => by rw [nest, vMap_size, sizeM, sizeM, nest_size x l, List.length_cons]; omega
theorem mfind_minsert {k s : ByteArray} {y : V} : ∀ {m : List (ByteArray × V)}, Rises m → mfind k (minsert s y m) = if k = s then some y else mfind k m
 | [], _ => by
  simp only [minsert, mfind]
  by_cases h : s = k
  ·rw [if_pos h, if_pos h.symm]
  ·rw [if_neg h, if_neg (fun e => h e.symm)]
 | (a, z) :: m, h => by
  have hc := List.pairwise_cons.1 h
  rw [minsert]
  split
  ·rename_i hlt
   have hne : a ≠ s := klt_ne (cmpS_lt.1 hlt)
   rw [mfind, mfind, mfind_minsert hc.2]
   by_cases h1 : a = k
   ·rw [if_pos h1, if_pos h1, if_neg (fun e => hne (h1.trans e))]
   ·rw [if_neg h1, if_neg h1]
  ·split
   ·rename_i he
    have := cmpS_eq.1 he
    subst this
    rw [mfind, mfind]
    by_cases h1 : a = k
    ·rw [if_pos h1, if_pos h1.symm]
    ·rw [if_neg h1, if_neg (fun e => h1 e.symm), if_neg h1]
   ·rw [mfind]
    by_cases h1 : s = k
    ·rw [if_pos h1, if_pos h1.symm]
    ·rw [if_neg h1, if_neg (fun e => h1 e.symm)]
theorem mfind_fdrop {k s : ByteArray} : ∀ {m : List (ByteArray × V)}, mfind k (fdrop s m) = if k = s then none else mfind k m
 | [] => by simp [fdrop, mfind]
 | (y, x) :: m => by
  have ih := mfind_fdrop (k := k) (s := s) (m := m)
  rw [fdrop] at ih ⊢
  by_cases h : y = s
  ·subst h
   rw [List.filter_cons_of_neg (by simp), ih, mfind]
   by_cases h2 : k = y
   ·rw [if_pos h2, if_pos h2]
   ·rw [if_neg h2, if_neg h2, if_neg (fun e => h2 e.symm)]
  ·rw [List.filter_cons_of_pos (by simp [h]), mfind, mfind, ih]
   by_cases h2 : y = k
   ·rw [if_pos h2, if_pos h2, if_neg (fun e => h (h2.trans e))]
   ·rw [if_neg h2, if_neg h2]
theorem stepO_find {f : V → V → V} {m : List (ByteArray × V)} {p : ByteArray × V} (hr : Rises m) (k : ByteArray) : mfind k (stepO f m p) = if k = p.1 then (if p.2.kind = 0 then none else some (f ((mfind k m).getD V.null) p.2)) else mfind k m := by
 unfold stepO
 by_cases hk : k = p.1
 ·subst hk
  rw [if_pos rfl]
  split
  ·rw [mfind_fdrop, if_pos rfl]
  ·rw [mfind_minsert hr, if_pos rfl]
 ·rw [if_neg hk]
  split
  ·rw [mfind_fdrop, if_neg hk]
  ·rw [mfind_minsert hr, if_neg hk]
theorem foldO_other {f : V → V → V} {k : ByteArray} : ∀ (b a : List (ByteArray × V)), Rises a → (∀ p ∈ b, p.1 ≠ k) → mfind k (foldO f a b) = mfind k a
 | [], _, _, _ => rfl
 | p :: b, a, hr, h => by
  show mfind k (foldO f (stepO f a p) b) = mfind k a
  rw [foldO_other b _ (stepO_rises hr p) fun q hq => h q (by simp [hq]), stepO_find hr, if_neg fun e => h p (by simp) e.symm]
theorem take_ne {m : List (ByteArray × V)} (hr : Rises m) {k : Nat} {p : ByteArray × V} (hg : m[k]? = some p) : ∀ q ∈ m.take k, q.1 ≠ p.1 := by
 intro q hq
 obtain ⟨j, hj⟩ := List.getElem?_of_mem hq
 have hjk : j < k := by
  have := (List.getElem?_eq_some_iff.1 hj).1
  rw [List.length_take] at this; omega
 rw [List.getElem?_take, if_pos hjk] at hj
 obtain ⟨q1, e1⟩ := List.getElem?_eq_some_iff.1 hj
 obtain ⟨q2, e2⟩ := List.getElem?_eq_some_iff.1 hg
 have := List.pairwise_iff_getElem.1 hr j k q1 q2 hjk
 rw [e1, e2] at this
 exact klt_ne this
def rowsT (p : List ByteArray) : List (List AV) := p.map fun s => [.str s]
theorem rowsT_len (l : List ByteArray) : (rowsT l).length = l.length := List.length_map _
theorem rowsT_at {l : List ByteArray} {k : Nat} {s : ByteArray} (h : l[k]? = some s) : (rowsT l)[k]? = some [.str s] := by simp [rowsT, h]
theorem rowsT_rel (σ : Sg) (l : List ByteArray) : RelL σ (l.map Value.string) (rowsT l).flatten := by
 have e : (rowsT l).flatten = l.map AV.str := by
  induction l with
  | nil => rfl
  | cons x l ih => simp [rowsT] at ih ⊢; exact ih
 rw [e]
 refine ⟨by simp, fun j v a hv ha => ?_⟩
 rw [List.getElem?_map] at hv ha
 cases h : l[j]? with
 | none => rw [h] at hv; cases hv
 | some x =>
  rw [h] at hv ha
  cases hv; cases ha
  exact .str x
theorem rowsT_ok (l : List ByteArray) : RowsOk 1 (rowsT l) := by
 refine ⟨by omega, fun q hc => ?_⟩
 simp only [rowsT, List.mem_map] at hc
 obtain ⟨x, _, rfl⟩ := hc
 exact ⟨rfl, rfl⟩
theorem drop_atT {α : Type} {l : List α} {i : Nat} {x : α} (h : l[i]? = some x) : x :: l.drop (i + 1) = l.drop i := by
 obtain ⟨h1, h2⟩ := List.getElem?_eq_some_iff.1 h
 rw [List.drop_eq_getElem_cons h1, h2]
theorem ixT_cases (l : List UInt8) (c : UInt8) : (Lib.indexByte l c = -1 ∧ c ∉ l) ∨ ∃ i : Nat, Lib.indexByte l c = i ∧ i < l.length ∧ l[i]? = some c ∧ c ∉ l.take i := by
 induction l with
 | nil => exact .inl ⟨rfl, by simp⟩
 | cons b l ih =>
  rw [Lib.indexByte]
  by_cases h : b = c
  ·subst h
   exact .inr ⟨0, by simp, by simp, rfl, by simp⟩
  ·rw [if_neg (by simpa using h)]
   rcases ih with ⟨h1, h2⟩ | ⟨i, h1, h2, h3, h4⟩
   ·exact .inl ⟨by rw [h1]; rfl, by simp [h2, Ne.symm h]⟩
   ·refine .inr ⟨i + 1, ?_, by simp; omega, by simpa using h3, by simp [h4, Ne.symm h]⟩
    rw [h1, if_neg (by simp)]
    simp
theorem countT_one (c : UInt8) : ∀ (fuel : Nat) (l : List UInt8), l.length < fuel → Lib.countFrom [c] fuel l = l.count c
 | 0, l, h => by omega
 | fuel + 1, l, h => by
  rw [Lib.countFrom, Lib.index_one]
  rcases ixT_cases l c with ⟨h1, h2⟩ | ⟨i, h1, h2, h3, h4⟩
  ·rw [h1, List.count_eq_zero_of_not_mem h2]
   rfl
  ·have hne : ¬ ((Lib.indexByte l c == -1) = true) := by rw [h1]; simp
   rw [if_neg hne, h1, countT_one c fuel _ (by simp; omega)]
   have e : l = l.take i ++ c :: l.drop (i + 1) := by
    rw [drop_atT h3, List.take_append_drop]
   have hc : l.count c = (l.take i ++ c :: l.drop (i + 1)).count c := congrArg (List.count c) e
   rw [hc, List.count_append, List.count_eq_zero_of_not_mem h4, List.count_cons_self]
   simp
   omega
def splT (c : UInt8) (s : ByteArray) : List ByteArray := Lib.splitB ⟨#[c]⟩ 0 (Lib.countB s ⟨#[c]⟩) s
theorem splT_len (c : UInt8) (s : ByteArray) : (splT c s).length = Lib.countB s ⟨#[c]⟩ + 1 := Lib.splitB_all ⟨#[c]⟩ (Nat.le_refl 1) _ _ _ rfl
set_option maxRecDepth 100000 in
theorem genSplitT_mf (c : UInt8) (s : ByteArray) (hs : s.size ≤ 4000000000) : MF Tryz.prog 127 [.str s, .str ⟨#[c]⟩, .int .i64 0, .int .i64 (-1)] 1 (rowsT (splT c s)) := by
 refine ⟨by kernel_rfl, fun σ w vs hh hr hg => ?_⟩
 have hl : vs.length = 4 := hr.1
 obtain ⟨v1, v2, v3, v4, rfl⟩ : ∃ a b c d, vs = [a, b, c, d] := by
  rcases vs with _ | ⟨a, _ | ⟨b, _ | ⟨c, _ | ⟨d, _ | ⟨e, l⟩⟩⟩⟩⟩ <;> simp at hl
  exact ⟨a, b, c, d, rfl⟩
 have h1 : Rel1 σ v1 (.str s) := hr.2 0 v1 _ rfl rfl
 have h2 : Rel1 σ v2 (.str ⟨#[c]⟩) := hr.2 1 v2 _ rfl rfl
 have h3 : Rel1 σ v3 (.int .i64 0) := hr.2 2 v3 _ rfl rfl
 have h4 : Rel1 σ v4 (.int .i64 (-1)) := hr.2 3 v4 _ rfl rfl
 cases h1; cases h2; cases h3; cases h4
 have hcl := Lib.countB_le ⟨#[c]⟩ (Nat.le_refl 1) s.size s (Nat.le_refl _)
 have hcnt : ∀ w : World, Calls Tryz.prog 175 #[.string s, .string ⟨#[c]⟩] w fun e w' => e = .returned (.int .i64 (Lib.countB s ⟨#[c]⟩)) ∧ w' = w := fun w => by
  refine (Tryz.strings_Count_one s c w).mono ?_
  rintro e w' ⟨rfl, rfl⟩
  refine ⟨?_, rfl⟩
  have := countT_one c (s.data.toList.length + 1) s.data.toList (Nat.lt_succ_self _)
  rw [show Lib.countB s ⟨#[c]⟩ = Lib.countFrom [c] (s.data.toList.length + 1) s.data.toList from rfl, this]
  rfl
 have hix : ∀ (x : ByteArray) (w : World), Calls Tryz.prog 148 #[.string x, .string ⟨#[c]⟩] w fun e w' => e = .returned (.int .i64 (Lib.indexB x ⟨#[c]⟩)) ∧ w' = w := fun x w => by
  refine (Tryz.strings_Index_one x c w).mono ?_
  rintro e w' ⟨rfl, rfl⟩
  refine ⟨?_, rfl⟩
  rw [show Lib.indexB x ⟨#[c]⟩ = Lib.index x.data.toList [c] from rfl, Lib.index_one]
 have hN : ((splT c s).length : Int) = min (if (-1 : Int) < 0 then (Lib.countB s ⟨#[c]⟩ : Int) + 1 else -1) ((s.size : Int) + 1) := by
  rw [if_pos (by decide), splT_len]
  omega
 refine (Any.strings_genSplit_core Tryz.lays221 (by kernel_rfl) s ⟨#[c]⟩ 0 (-1) (splT c s).length w (by omega) (Nat.le_refl 1) (Nat.zero_le _) (fun x _ _ => hix x _) (hcnt w) (by decide) (by decide) hN).mono ?_
 rintro e w' ⟨rfl, rfl⟩
 have e1 : Lib.splitB ⟨#[c]⟩ 0 ((splT c s).length - 1) s = splT c s := by rw [splT_len]; rfl
 rw [e1]
 have hbl : Below w.heap.size w (w.alloc (.cells (Lib.cellsOf (splT c s) (splT c s).length) 9)) := (Below.refl _ _).alloc (Nat.le_refl _) _
 have hne : 0 < (splT c s).length := by rw [splT_len]; omega
 refine ⟨σ, w.heap.size, _, by rw [rowsT_len], Ext.refl _ _, fun b q v hv => (hbl.cell (p := ⟨b, q, none⟩) (World.block_lt_of_cell? w _ (hh _ _ _ hv))).trans (hh _ _ _ hv), hbl, by omega, ?_⟩
 have e2 : Lib.cellsOf (splT c s) (splT c s).length = ((splT c s).map Value.string ++ []).toArray := by simp [Lib.cellsOf]
 rw [e2]
 refine FRowW.new hh (Nat.le_refl _) (e := 9) ?_ ?_ ?_ (by simp) ?_ ?_
 ·exact rowsT_rel σ _
 ·intro q hc
  simp only [rowsT, List.mem_map] at hc
  obtain ⟨x, _, rfl⟩ := hc
  rfl
 ·simp [rowsT_len]
 ·simp
 ·rw [rowsT_len]; exact Nat.le_refl _
theorem splitT_b (c : UInt8) (s : ByteArray) (hs : s.size ≤ 4000000000) : AC Tryz.prog 90 [.str s, .str ⟨#[c]⟩] (.lst .any 1 (rowsT (splT c s))) := by
 have h := genSplitT_mf c s hs
 refine kE Tryz.func90 a_strings_Split_ok a_strings_Split_cb fun E hE => ?_
 refine kW ?_
 refine kQ [.f 1 (rowsT (splT c s))] ?_
 refine AK.open2 7 1000010 rfl (by omega) rfl (rowsT_ok _) fun cap2 cs2 hr2 => ?_
 refine AK.fz 1000010 rfl ?_
 refine AK.weak (Weak.intro (L := [(4, .lst .any 1 (rowsT (splT c s)))]) (BL := []) ⟨⟨_, rfl, .one (hr2.le rfl)⟩, trivial⟩ trivial rfl rfl (by exact trivial)) ?_
 refine kW ?_
 refine AK.ret ⟨_, rfl, ?_⟩
 rfl
theorem splitT_a (c : UInt8) (s : ByteArray) (hs : s.size ≤ 1000000) : AC Tryz.prog 90 [.str s, .str ⟨#[c]⟩] (.lst .any 1 (rowsT (splT c s))) := splitT_b c s (by omega)
theorem splT_mem {c : UInt8} {s x : ByteArray} (h : x ∈ splT c s) : x.size ≤ s.size := by
 have key : ∀ (k : Nat) (s : ByteArray), ∀ x ∈ Lib.splitB ⟨#[c]⟩ 0 k s, x.size ≤ s.size := by
  intro k
  induction k with
  | zero => intro s x hx; simp [Lib.splitB] at hx; subst hx; exact Nat.le_refl _
  | succ k ih =>
   intro s x hx
   rw [Lib.splitB] at hx
   split at hx
   ·simp at hx; subst hx; exact Nat.le_refl _
   ·rcases List.mem_cons.1 hx with rfl | hx
    ·rw [ByteArray.size_extract]; omega
    ·refine Nat.le_trans (ih _ x hx) ?_
     rw [ByteArray.size_extract]; omega
 exact key _ _ _ h
theorem splT_le (c : UInt8) (s : ByteArray) : (splT c s).length ≤ s.size + 1 := by
 rw [splT_len]
 have := Lib.countB_le ⟨#[c]⟩ (Nat.le_refl 1) s.size s (Nat.le_refl _)
 omega
end Go.Proofs.YtnpkejnaeemgjaaGreatDoor
