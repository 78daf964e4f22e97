/-
  The texts that the claim wants, one behind the other: part 12.
-/
import Derived.Test.YtgidajjjpeboeaaGreatDoorS11
import Derived.Maps.RangeRun
set_option linter.unusedSimpArgs false
set_option linter.unusedVariables false
namespace Go.Proofs.YtgidajjjpeboeaaGreatDoor
open Go.RowKit Go.MapKept
open Go.ChangeMaps (setBlock)
section
variable {P : Program} {mu : List Nat} {E : Env} {G G' : Gho} {fr fr' : Fr} {st st' : St} {a a0 : Act} {w w0 : World}
open Classical in
noncomputable def Env.re (E : Env) (w : World) (σ : Sg) (hg : GW w) (Pr : Nat → Prop) : Env where
 w0 := w
 n := E.n
 σ0 := σ
 gw := hg
 B0 := fun id => if (∃ b, E.B0 id = some b ∧ ¬ Pr b) then E.B0 id else none
 kgl := fun id b h => by
  split at h
  ·exact E.kgl id b h
  ·cases h
 Kx := fun b => E.own b ∧ ¬ Pr b
 kgx := fun b h => E.ownGl h.1
theorem re_K0 {σ : Sg} {hg : GW w} {Pr : Nat → Prop} {b : Nat} : (E.re w σ hg Pr).K0 b ↔ E.own b ∧ ¬ Pr b := by
 constructor
 ·rintro (⟨id, h⟩ | h)
  ·simp only [Env.re] at h
   split at h
   ·rename_i hx
    obtain ⟨b', h1, h2⟩ := hx
    rw [h] at h1
    cases h1
    exact ⟨.inr (.inl ⟨id, h⟩), h2⟩
   ·cases h
  ·exact h
 ·exact fun h => .inr h
theorem re_own {σ : Sg} {hg : GW w} {Pr : Nat → Prop} {b : Nat} : (E.re w σ hg Pr).own b ↔ w.heap.size ≤ b ∨ (E.own b ∧ ¬ Pr b) := by
 show _ ∨ _ ↔ _
 rw [re_K0]
 exact Iff.rfl
def awayB (H : List (Nat × List AV)) (b : Nat → Option (List AV × Bool)) : Nat → Option (List AV × Bool) := fun id => match memN id (domS H) with
 | true => none
 | false => b id
def backB (H : List (Nat × List AV)) (st : St) : St := ⟨putS (clrB (domS H) st.box) [] H, st.row⟩
theorem awayB_of {H : List (Nat × List AV)} {b : Nat → Option (List AV × Bool)} {id : Nat} {x : List AV × Bool} (h : awayB H b id = some x) : id ∉ domS H ∧ b id = some x := by
 unfold awayB at h
 split at h
 ·cases h
 ·rename_i hm
  refine ⟨fun e => ?_, h⟩
  rw [memN_iff'.2 e] at hm
  cases hm
theorem Conc.away (h : Conc E G fr st a w) {H : List (Nat × List AV)} (hH : ∀ x ∈ H, st.box x.1 = some (x.2, false)) (hid : ∀ x ∈ H, 1000000 ≤ x.1) {Pr : Nat → Prop}
  (hPr : ∀ b, Pr b → (∃ x ∈ H, G.B x.1 = some b) ∨ ∃ m s sn c, w.heap[b]? = some (.mapIter m s sn c)) :
  Conc (E.re w G.σ (E.gwb h.below) Pr) { G with B := fun id => if id ∈ domS H then none else G.B id } fr ⟨awayB H st.box, st.row⟩ a w := by
 have hd : ∀ id, id ∈ domS H → ∃ cs, st.box id = some (cs, false) ∧ 1000000 ≤ id := fun id hm => by
  obtain ⟨x, hx, e⟩ := List.mem_map.1 hm
  subst e
  exact ⟨x.2, hH x hx, hid x hx⟩
 have hB' : ∀ id g, (if id ∈ domS H then none else G.B id) = some g → id ∉ domS H ∧ G.B id = some g := fun id g hg => by
  split at hg
  ·cases hg
  ·rename_i hn; exact ⟨hn, hg⟩
 have hcells : ∀ (b : Nat) cs t z, w.heap[b]? = some (.cells cs t z) → (∀ id, G.B id ≠ some b) → ¬ Pr b := fun b cs t z hb hn hp => by
  rcases hPr b hp with ⟨x, _, e⟩ | ⟨m, s, sn, c, e⟩
  ·exact hn _ e
  ·rw [hb] at e; cases e
 have hbox : ∀ id g, id ∉ domS H → G.B id = some g → ¬ Pr g := fun id g hn hg hp => by
  rcases hPr g hp with ⟨x, hx, e⟩ | ⟨m, s, sn, c, e⟩
  ·have := h.binj id x.1 g hg e
   exact hn (this ▸ List.mem_map.2 ⟨x, hx, rfl⟩)
  ·cases hbx : st.box id with
   | none => rw [h.bnone id hbx] at hg; cases hg
   | some y =>
    obtain ⟨g', k1, _, t, vs, ⟨o, k2, k3⟩, _⟩ := h.box id y.1 y.2 hbx
    rw [hg] at k1
    cases k1
    rw [e] at k2
    cases k2
    unfold ObjAt at k3
    split at k3
    ·cases k3
    ·obtain ⟨_, _, k3, _⟩ := k3; cases k3
 have hle : G.le { G with B := fun id => if id ∈ domS H then none else G.B id } := ⟨.refl _, fun _ _ _ h => h, fun _ _ h => h, fun id g _ hg => (hB' id g hg).2⟩
 exact
  { defers := h.defers
    size := h.size
    slots := fun s x hs => (h.slots s x hs).mono2 hle fun id g hlt hg => by
     show (if id ∈ domS H then none else G.B id) = some g
     rw [if_neg (fun hm => by obtain ⟨_, _, h3⟩ := hd id hm; omega)]
     exact hg
    hold := h.hold
    ext := ⟨.refl _, fun _ _ _ _ => rfl⟩
    below := BelowK.refl _ _
    box := fun id cs fz hs => by
     obtain ⟨hn, hb⟩ := awayB_of hs
     obtain ⟨g, k1, k2, t, vs, k3, k4, k5, k6⟩ := h.box id cs fz hb
     exact ⟨g, by show (if id ∈ domS H then none else G.B id) = some g; rw [if_neg hn]; exact k1, re_own.2 (.inr ⟨k2, hbox id g hn k1⟩), t, vs, k3, k4, k5.mono hle, k6⟩
    bnone := fun id hs => by
     show (if id ∈ domS H then none else G.B id) = none
     by_cases hm : id ∈ domS H
     ·rw [if_pos hm]
     ·rw [if_neg hm]
      refine h.bnone id ?_
      simp only [awayB] at hs
      split at hs
      ·rename_i hx; exact absurd (memN_iff'.1 hx) hm
      ·exact hs
    binj := fun id id' g h1 h2 => h.binj id id' g (hB' id g h1).2 (hB' id' g h2).2
    row := fun s r hs => by
     obtain ⟨⟨k1, e, cur, k3, k4⟩, k5⟩ := h.row s r hs
     exact ⟨⟨re_own.2 (.inr ⟨k1, hcells _ _ _ _ k3 k5⟩), e, cur, k3, k4⟩, fun id hg => k5 id (hB' id _ hg).2⟩
    rinj := h.rinj
    rlt := h.rlt
    phi := fun k x hk => by
     obtain ⟨⟨k1, k2⟩, k3, k4⟩ := h.phi k x hk
     have k2' := k2
     obtain ⟨e, cur, q1, _⟩ := k2'
     exact ⟨⟨re_own.2 (.inr ⟨k1, hcells _ _ _ _ q1 k3⟩), k2⟩, fun id hg => k3 id (hB' id _ hg).2, k4⟩
    phinj := h.phinj
    pnone := h.pnone
    small := h.small
    keep := fun id g h2 hg => by
     obtain ⟨hn, hg⟩ := hB' id g hg
     have hE := h.keep id g h2 hg
     simp only [Env.re]
     rw [if_pos ⟨g, hE, hbox id g hn hg⟩]
     exact hE }
theorem Conc.back (h0 : Conc E G fr' st' a0 w0) {H : List (Nat × List AV)} (hH : ∀ x ∈ H, st'.box x.1 = some (x.2, false)) (hid : ∀ x ∈ H, 1000000 ≤ x.1) (hin : ∀ x ∈ H, ∀ c ∈ x.2, AV.inS (domS H) c = true) {Pr : Nat → Prop} {hg : GW w0}
  (hB : ∀ x ∈ H, ∀ b, G.B x.1 = some b → Pr b) (h : Conc (E.re w0 G.σ hg Pr) G' fr st a w) :
  Conc E { G' with B := fun id => if id ∈ domS H then G.B id else G'.B id } (clrF (domS H) fr) (backB H st) a w := by
 have hd : ∀ id, id ∈ domS H → ∃ cs g, st'.box id = some (cs, false) ∧ 1000000 ≤ id ∧ G.B id = some g ∧ Pr g ∧ g < w0.heap.size ∧ E.own g := fun id hm => by
  obtain ⟨x, hx, e⟩ := List.mem_map.1 hm
  subst e
  obtain ⟨g, k1, k2, t, vs, k3, _⟩ := h0.box x.1 x.2 false (hH x hx)
  exact ⟨x.2, g, hH x hx, hid x hx, k1, hB x hx g k1, k3.lt, k2⟩
 have hb1 : ∀ id, id ∈ domS H → (if id ∈ domS H then G.B id else G'.B id) = G.B id := fun id hm => if_pos hm
 have hb2 : ∀ id, id ∉ domS H → (if id ∈ domS H then G.B id else G'.B id) = G'.B id := fun id hm => if_neg hm
 have hownE : ∀ b, (E.re w0 G.σ hg Pr).own b → E.own b := fun b hb => by
  rcases re_own.1 hb with hb | hb
  ·exact .inl (Nat.le_trans h0.lt hb)
  ·exact hb.1
 have hK : ∀ x, (E.re w0 G.σ hg Pr).K0 x → E.K0 x ∨ E.w0.heap.size ≤ x := fun x hx => (re_K0.1 hx).1.symm
 have hnot : ∀ g, Pr g → g < w0.heap.size → w.heap[g]? = w0.heap[g]? ∧ ∀ j, G'.σ g j = G.σ g j := fun g hp hlt =>
  ⟨h.below.block g hlt fun hk => (re_K0.1 hk).2 hp, fun j => h.ext.2 g j hlt fun hk => (re_K0.1 hk).2 hp⟩
 have apart : ∀ g, Pr g → g < w0.heap.size → ¬ (E.re w0 G.σ hg Pr).own g := fun g hp hlt ho => by
  rcases re_own.1 ho with ho | ho
  ·omega
  ·exact ho.2 hp
 have hσ : G.σ.le G'.σ := h.ext.1
 have hle : Gho.leN (domS H) G' { G' with B := fun id => if id ∈ domS H then G.B id else G'.B id } :=
  { σ := .refl _
    ρ := rfl
    φ := rfl
    B := fun id g _ hn hg => by
     simp only at hg
     rw [hb2 id hn] at hg
     exact hg
    lo := fun id g hlt hg => by
     simp only
     rw [hb2 id fun hm => by obtain ⟨_, _, _, h3, _⟩ := hd id hm; omega]
     exact hg }
 have hput : ∀ id, (backB H st).box id = (match getS H id with
   | some cs => some (cs, false)
   | none => (st.box id).map fun x => (x.1.map (clrC (domS H)), x.2)) := fun id => by
  show putS (clrB (domS H) st.box) [] H id = _
  unfold putS
  cases getS H id with
  | some cs => rfl
  | none =>
   simp only [memN]
   rw [clrB_at]
 have hbx : ∀ id g, id ∉ domS H → G'.B id = some g → (E.re w0 G.σ hg Pr).own g := fun id g _ hg => by
  cases hq : st.box id with
  | none => rw [h.bnone id hq] at hg; cases hg
  | some y =>
   obtain ⟨g', k1, k2, _⟩ := h.box id y.1 y.2 hq
   rw [hg] at k1
   cases k1
   exact k2
 exact
  { defers := h.defers
    size := h.size
    slots := fun s x hs => by
     rw [clrF_at] at hs
     cases hf : fr s with
     | none => rw [hf] at hs; cases hs
     | some y => rw [hf] at hs; cases hs; exact clrS_rel hle (h.slots s y hf)
    hold := h.hold
    ext := h0.ext.trans h.ext h0.lt hK
    below := h0.below.trans h.below hK
    box := fun id cs fz hs => by
     rw [hput] at hs
     split at hs
     ·rename_i cs' hq
      cases hs
      have hm := getS_mem hq
      have hdm : id ∈ domS H := List.mem_map.2 ⟨_, hm, rfl⟩
      obtain ⟨g, k1, k2, t, vs, k3, k4, k5, k6⟩ := h0.box id cs false (hH _ hm)
      obtain ⟨q1, q2⟩ := hnot g (hB _ hm g k1) k3.lt
      refine ⟨g, by simp only; rw [hb1 id hdm]; exact k1, k2, t, vs, k3.of q1, k4.mono hσ, fun j v c hv hc => ?_, fun j => (q2 j).trans (k6 j)⟩
      have hi := hin _ hm c (List.mem_of_getElem? hc)
      have ht := k5 j v c hv hc
      cases c with
      | np i o =>
       simp only [AV.inS, Bool.and_eq_true] at hi
       obtain ⟨q0, g2, q1, q2⟩ := ht
       exact ⟨q0, g2, q1, fun g' hg' => q2 g' (by simp only at hg'; rw [hb1 i (memN_iff'.1 hi.2)] at hg'; exact hg')⟩
      | sli i e n c =>
       simp only [AV.inS, Bool.and_eq_true] at hi
       obtain ⟨q0, qn, g2, q1, q2⟩ := ht
       exact ⟨q0, qn, g2, q1, fun g' hg' => q2 g' (by simp only at hg'; rw [hb1 i (memN_iff'.1 hi.2)] at hg'; exact hg')⟩
      | lst t e l => cases t <;> first | trivial | cases hi
      | frs k e r => cases hi
      | _ => trivial
     ·rename_i hq
      have hdm := getS_none hq
      cases hbq : st.box id with
      | none => rw [hbq] at hs; cases hs
      | some x =>
       rw [hbq] at hs
       cases hs
       obtain ⟨g, k1, k2, t, vs, k3, k4, k5, k6⟩ := h.box id x.1 x.2 hbq
       obtain ⟨q3, q4⟩ := clrCs_rel hle k4 k5
       exact ⟨g, by simp only; rw [hb2 id hdm]; exact k1, hownE g k2, t, vs, k3, q3, q4, k6⟩
    bnone := fun id hs => by
     rw [hput] at hs
     simp only
     split at hs
     ·cases hs
     ·rename_i hq
      rw [hb2 id (getS_none hq)]
      cases hbq : st.box id with
      | none => exact h.bnone id hbq
      | some x => rw [hbq] at hs; cases hs
    binj := fun id1 id2 g h1 h2 => by
     simp only at h1 h2
     by_cases m1 : id1 ∈ domS H <;> by_cases m2 : id2 ∈ domS H
     ·rw [hb1 _ m1] at h1; rw [hb1 _ m2] at h2; exact h0.binj id1 id2 g h1 h2
     ·rw [hb1 _ m1] at h1; rw [hb2 _ m2] at h2
      obtain ⟨_, g', _, _, k1, k2, k3, _⟩ := hd id1 m1
      rw [h1] at k1
      cases k1
      exact absurd (hbx id2 g m2 h2) (apart g k2 k3)
     ·rw [hb2 _ m1] at h1; rw [hb1 _ m2] at h2
      obtain ⟨_, g', _, _, k1, k2, k3, _⟩ := hd id2 m2
      rw [h2] at k1
      cases k1
      exact absurd (hbx id1 g m1 h1) (apart g k2 k3)
     ·rw [hb2 _ m1] at h1; rw [hb2 _ m2] at h2; exact h.binj id1 id2 g h1 h2
    row := fun s r hs => by
     obtain ⟨⟨k1, k2⟩, k3⟩ := h.row s r hs
     refine ⟨⟨hownE _ k1, k2⟩, fun id hg' => ?_⟩
     simp only at hg'
     by_cases m1 : id ∈ domS H
     ·rw [hb1 _ m1] at hg'
      obtain ⟨_, g', _, _, q1, q2, q3, _⟩ := hd id m1
      rw [hg'] at q1
      cases q1
      exact apart _ q2 q3 k1
     ·rw [hb2 _ m1] at hg'; exact k3 id hg'
    rinj := h.rinj
    rlt := h.rlt
    phi := fun k x hk => by
     obtain ⟨⟨k1, k2⟩, k3, k4⟩ := h.phi k x hk
     refine ⟨⟨hownE _ k1, k2⟩, fun id hg' => ?_, k4⟩
     simp only at hg'
     by_cases m1 : id ∈ domS H
     ·rw [hb1 _ m1] at hg'
      obtain ⟨_, g', _, _, q1, q2, q3, _⟩ := hd id m1
      rw [hg'] at q1
      cases q1
      exact apart _ q2 q3 k1
     ·rw [hb2 _ m1] at hg'; exact k3 id hg'
    phinj := h.phinj
    pnone := fun k hk => h.pnone k (by
     rw [clrF_at] at hk
     cases hf : fr k with
     | none => rfl
     | some y => rw [hf] at hk; cases hk)
    small := h.small
    keep := fun id g h2 hg' => by
     simp only at hg'
     by_cases m1 : id ∈ domS H
     ·rw [hb1 _ m1] at hg'; exact h0.keep id g h2 hg'
     ·rw [hb2 _ m1] at hg'
      have := h.keep id g h2 hg'
      simp only [Env.re] at this
      split at this
      ·exact this
      ·cases this }
theorem backB_nil (st : St) : backB [] st = st := by
 unfold backB
 have : putS (clrB (domS []) st.box) [] [] = st.box := by
  funext id
  show (match getS [] id with | some cs => some (cs, false) | none => match memN id [] with | true => none | false => clrB (domS []) st.box id) = _
  rfl
 rw [this]
theorem Conc.away0 (h : Conc E G fr st a w) {r : Nat} {m : Option Nat} {s : Nat} {sn : Array Nat} {c : Nat} (hr : w.heap[r]? = some (.mapIter m s sn c)) :
  Conc (E.re w G.σ (E.gwb h.below) (fun b => b = r)) G fr st a w := by
 have h1 := h.away (H := []) (fun x hx => by cases hx) (fun x hx => by cases hx) (Pr := fun b => b = r) (fun b e => .inr ⟨m, s, sn, c, e ▸ hr⟩)
 exact h1
theorem Conc.back0 (h0 : Conc E G fr' st' a0 w0) {r : Nat} {hg : GW w0} (h : Conc (E.re w0 G.σ hg (fun b => b = r)) G' fr st a w) : Conc E G' fr st a w := by
 have h1 := Conc.back (H := []) h0 (fun x hx => by cases hx) (fun x hx => by cases hx) (fun x hx => by cases hx) (fun x hx => by cases hx) h
 rw [backB_nil] at h1
 exact h1
end
end Go.Proofs.YtgidajjjpeboeaaGreatDoor
