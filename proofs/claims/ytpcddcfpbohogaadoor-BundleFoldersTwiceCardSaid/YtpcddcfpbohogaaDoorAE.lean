/-
  The abstract walk: code, loops, a function's call.
-/
import Derived.Test.YtpcddcfpbohogaaDoorAD
namespace Go.Proofs.YtpcddcfpbohogaaDoor
set_option linter.unusedSimpArgs false
set_option linter.unusedVariables false
open Go.RowKit

def AWp (P : Program) (E : Env) (ac : ACode) (Q : Exit → Fr → St → Prop) (fr : Fr) (st : St) : Prop :=
  ∀ (mu : List Nat) (c : Code) G a w, codeAC P mu c = some ac → dstsOk E.n ac = true → Conc E G fr st a w → c.wp P (fun e a' w' => ∃ G' fr' st', Conc E G' fr' st' a' w' ∧ Q e fr' st') a w
inductive AItem where
  | c (a : ACode)
  | blk (id : Nat)
  | lp (I : Fr → St → Prop)
def mkQ (Q : Exit → Fr → St → Prop) (n : Fr → St → Prop) (x : Nat → Fr → St → Prop) : Exit → Fr → St → Prop
  | .normal => n
  | .exit id => x id
  | e => Q e
def KS (P : Program) (E : Env) (Q : Exit → Fr → St → Prop) : List AItem → (Fr → St → Prop) × (Nat → Fr → St → Prop)
  | [] => (Q .normal, fun id => Q (.exit id))
  | .c a :: k => (fun fr st => dstsOk E.n a = true → AWp P E a (mkQ Q (KS P E Q k).1 (KS P E Q k).2) fr st, (KS P E Q k).2)
  | .blk id :: k => ((KS P E Q k).1, fun id' => if Nat.beq id id' then (KS P E Q k).1 else (KS P E Q k).2 id')
  | .lp I :: k => (I, (KS P E Q k).2)
/-- what is still to be done -/
def AK (P : Program) (E : Env) (Q : Exit → Fr → St → Prop) (k : List AItem) (fr : Fr) (st : St) : Prop := (KS P E Q k).1 fr st
def exitK (id : Nat) : List AItem → Option (List AItem)
  | [] => none
  | .c _ :: k => exitK id k
  | .blk id' :: k => match Nat.beq id' id with
    | true => some k
    | false => exitK id k
  | .lp _ :: k => exitK id k

section
variable {P : Program} {E : Env} {Q : Exit → Fr → St → Prop} {k : List AItem} {fr fr' : Fr} {st st' : St}

theorem AK.seq {a b : ACode} (h : AK P E Q (.c a :: .c b :: k) fr st) : AK P E Q (.c (.seq a b) :: k) fr st := by
  intro hd mu c G ac w hc _ hC
  simp only [dstsOk, Bool.and_eq_true] at hd
  cases c with
  | seq x y =>
    simp only [codeAC] at hc
    split at hc
    · rename_i a' b' hx hy
      cases hc
      refine wp_seq (wp_mono (h hd.1 mu x G ac w hx hd.1 hC) fun e a' w' ⟨G', f, s, hC', hQ⟩ => ?_)
      cases e with
      | normal => exact hQ hd.2 mu y G' a' w' hy hd.2 hC'
      | exit id => exact ⟨G', f, s, hC', hQ⟩
      | goto l => exact ⟨G', f, s, hC', hQ⟩
      | ret => exact ⟨G', f, s, hC', hQ⟩
      | panic ch => exact ⟨G', f, s, hC', hQ⟩
      | outgrown => exact ⟨G', f, s, hC', hQ⟩
    · cases hc
  | region id ops dr => simp only [codeAC] at hc; split at hc; · split at hc <;> cases hc
                        · cases hc
  | cond x t e => simp only [codeAC] at hc; split at hc <;> cases hc
  | block id b => simp only [codeAC] at hc; split at hc <;> cases hc
  | loop b => simp only [codeAC] at hc; split at hc <;> cases hc
  | _ => cases hc
theorem AK.block {id : Nat} {b : ACode} (h : AK P E Q (.c b :: .blk id :: k) fr st) : AK P E Q (.c (.block id b) :: k) fr st := by
  intro hd mu c G ac w hc _ hC
  cases c with
  | block id' x =>
    simp only [codeAC] at hc
    split at hc
    · rename_i b' hx
      cases hc
      refine wp_block (wp_mono (h hd mu x G ac w hx hd hC) fun e a' w' ⟨G', f, s, hC', hQ⟩ => ?_)
      cases e with
      | normal => exact ⟨G', f, s, hC', hQ⟩
      | exit i =>
        simp only [Exit.inBlock]
        simp only [mkQ, KS] at hQ
        by_cases hi : i = id
        · subst hi
          rw [if_pos rfl]
          rw [if_pos (Nat.beq_refl i)] at hQ
          exact ⟨G', f, s, hC', hQ⟩
        · rw [if_neg hi]
          rw [if_neg (by rw [nbeq_ne (fun e => hi e.symm)]; simp)] at hQ
          exact ⟨G', f, s, hC', hQ⟩
      | goto l => exact ⟨G', f, s, hC', hQ⟩
      | ret => exact ⟨G', f, s, hC', hQ⟩
      | panic ch => exact ⟨G', f, s, hC', hQ⟩
      | outgrown => exact ⟨G', f, s, hC', hQ⟩
    · cases hc
  | region id ops dr => simp only [codeAC] at hc; split at hc; · split at hc <;> cases hc
                        · cases hc
  | cond x t e => simp only [codeAC] at hc; split at hc <;> cases hc
  | seq x y => simp only [codeAC] at hc; split at hc <;> cases hc
  | loop b => simp only [codeAC] at hc; split at hc <;> cases hc
  | _ => cases hc
theorem AK.blk {id : Nat} (h : AK P E Q k fr st) : AK P E Q (.blk id :: k) fr st := h
theorem AK.lp {I : Fr → St → Prop} (h : I fr st) : AK P E Q (.lp I :: k) fr st := h
theorem exitK_spec {id : Nat} : ∀ {k k' : List AItem}, exitK id k = some k' → AK P E Q k' fr st → (KS P E Q k).2 id fr st
  | [], k', h, _ => by cases h
  | .c a :: k, k', h, hk => exitK_spec (k := k) h hk
  | .lp I :: k, k', h, hk => exitK_spec (k := k) h hk
  | .blk id' :: k, k', h, hk => by
    simp only [exitK] at h
    simp only [KS]
    split at h
    · rename_i hb
      cases h
      rw [if_pos hb]
      exact hk
    · rename_i hb
      rw [if_neg (by rw [hb]; simp)]
      exact exitK_spec (k := k) h hk
theorem AK.exit {id : Nat} {k' : List AItem} (he : exitK id k = some k') (h : AK P E Q k' fr st) : AK P E Q (.c (.exit id) :: k) fr st := by
  intro hd mu c G ac w hc _ hC
  cases c with
  | exit id' =>
    cases hc
    exact wp_exit ⟨G, fr, st, hC, exitK_spec he h⟩
  | region id ops dr => simp only [codeAC] at hc; split at hc; · split at hc <;> cases hc
                        · cases hc
  | cond x t e => simp only [codeAC] at hc; split at hc <;> cases hc
  | seq x y => simp only [codeAC] at hc; split at hc <;> cases hc
  | block id b => simp only [codeAC] at hc; split at hc <;> cases hc
  | loop b => simp only [codeAC] at hc; split at hc <;> cases hc
  | _ => cases hc
theorem AK.ret (h : Q .ret fr st) : AK P E Q (.c .ret :: k) fr st := by
  intro hd mu c G ac w hc _ hC
  cases c with
  | ret => exact wp_ret ⟨G, fr, st, hC, h⟩
  | region id ops dr => simp only [codeAC] at hc; split at hc; · split at hc <;> cases hc
                        · cases hc
  | cond x t e => simp only [codeAC] at hc; split at hc <;> cases hc
  | seq x y => simp only [codeAC] at hc; split at hc <;> cases hc
  | block id b => simp only [codeAC] at hc; split at hc <;> cases hc
  | loop b => simp only [codeAC] at hc; split at hc <;> cases hc
  | _ => cases hc
theorem AK.skip (h : AK P E Q k fr st) : AK P E Q (.c .skip :: k) fr st := by
  intro hd mu c G ac w hc _ hC
  cases c with
  | skip => exact wp_skip ⟨G, fr, st, hC, h⟩
  | region id ops dr => simp only [codeAC] at hc; split at hc; · split at hc <;> cases hc
                        · cases hc
  | cond x t e => simp only [codeAC] at hc; split at hc <;> cases hc
  | seq x y => simp only [codeAC] at hc; split at hc <;> cases hc
  | block id b => simp only [codeAC] at hc; split at hc <;> cases hc
  | loop b => simp only [codeAC] at hc; split at hc <;> cases hc
  | _ => cases hc
theorem AK.cond {c : Opd} {t e : ACode} {b : Bool} (hb : c.ev fr = some (.bool b)) (ht : b = true → AK P E Q (.c t :: k) fr st) (hf : b = false → AK P E Q (.c e :: k) fr st) : AK P E Q (.c (.cond c t e) :: k) fr st := by
  intro hd mu cc G ac w hc _ hC
  simp only [dstsOk, Bool.and_eq_true] at hd
  cases cc with
  | cond x y z =>
    simp only [codeAC] at hc
    split at hc
    · rename_i x' y' z' hx hy hz
      cases hc
      have hv := (hC.ev hx hb).bool
      exact wp_cond_split hv (fun e => ht e hd.1 mu y G ac w hy hd.1 hC) (fun e => hf e hd.2 mu z G ac w hz hd.2 hC)
    · cases hc
  | region id ops dr => simp only [codeAC] at hc; split at hc; · split at hc <;> cases hc
                        · cases hc
  | seq x y => simp only [codeAC] at hc; split at hc <;> cases hc
  | block id b => simp only [codeAC] at hc; split at hc <;> cases hc
  | loop b => simp only [codeAC] at hc; split at hc <;> cases hc
  | _ => cases hc
theorem AK.reg (hm : P.follows .mixedOrders = true) {l : List GI} {rs rs' : List RS} {p : Prop} (hs : arun P l rs fr st = some (rs', fr', st', p)) (hp : p) (h : AK P E Q k fr' st') : AK P E Q (.c (.reg l) :: k) fr st := by
  intro hd mu c G ac w hc _ hC
  cases c with
  | region id ops dr =>
    simp only [codeAC] at hc
    split at hc
    · rename_i l' hl
      split at hc
      · rename_i hlex
        cases hc
        exact region_ok hm hl hlex hd hC hs hp fun G' a' w' hC' => ⟨G', fr', st', hC', h⟩
      · cases hc
    · cases hc
  | cond x t e => simp only [codeAC] at hc; split at hc <;> cases hc
  | seq x y => simp only [codeAC] at hc; split at hc <;> cases hc
  | block id b => simp only [codeAC] at hc; split at hc <;> cases hc
  | loop b => simp only [codeAC] at hc; split at hc <;> cases hc
  | _ => cases hc
/-- less is known -/
def Weak (fr : Fr) (st : St) (fr' : Fr) (st' : St) : Prop := ∀ (E : Env) (G : Gho) (a : Act) (w : World), Conc E G fr st a w → ∃ G', Conc E G' fr' st' a w
theorem AK.weak {a : ACode} (hw : Weak fr st fr' st') (h : AK P E Q (.c a :: k) fr' st') : AK P E Q (.c a :: k) fr st := by
  intro hd mu c G ac w hc hd2 hC
  obtain ⟨G', hC'⟩ := hw E G ac w hC
  exact h hd mu c G' ac w hc hd2 hC'
theorem least {S : Nat → Prop} (h : ∃ n, S n) : ∃ n, S n ∧ ∀ m, S m → n ≤ m := by
  obtain ⟨n, hn⟩ := h
  induction n using Nat.strongRecOn with
  | _ n ih =>
    by_cases hx : ∃ m, m < n ∧ S m
    · obtain ⟨m, hm, hs⟩ := hx
      exact ih m hm hs
    · exact ⟨n, hn, fun m hm => Nat.le_of_not_lt fun hlt => hx ⟨m, hlt, hm⟩⟩
open Classical in
noncomputable def leastN (S : Nat → Prop) : Nat := if h : ∃ n, S n then Classical.choose (least h) else 0
theorem leastN_spec {S : Nat → Prop} {n : Nat} (h : S n) : S (leastN S) ∧ ∀ m, S m → leastN S ≤ m := by
  have hx : ∃ n, S n := ⟨n, h⟩
  unfold leastN
  rw [dif_pos hx]
  exact Classical.choose_spec (least hx)
theorem AK.loop {ι : Type} (J : ι → Fr × St) (μ : ι → Nat) {b : ACode} (i0 : ι) (h0 : Weak fr st (J i0).1 (J i0).2) (h : ∀ i, AK P E Q (.c b :: .lp (fun fr st => ∃ i', Weak fr st (J i').1 (J i').2 ∧ μ i' < μ i) :: k) (J i).1 (J i).2) : AK P E Q (.c (.loop b) :: k) fr st := by
  intro hd mu c G ac w hc _ hC
  have hd' : dstsOk E.n b = true := hd
  cases c with
  | loop x =>
    simp only [codeAC] at hc
    split at hc
    · rename_i b' hx
      cases hc
      obtain ⟨G', hC'⟩ := h0 E G ac w hC
      refine wp_loop (fun a w => ∃ i G, Conc E G (J i).1 (J i).2 a w) (fun a w => leastN fun m => ∃ i G, Conc E G (J i).1 (J i).2 a w ∧ μ i = m) ⟨i0, G', hC'⟩ ?_
      intro a1 w1 ⟨i1, G1, hC1⟩
      obtain ⟨⟨i2, G2, hC2, hμ⟩, hmin⟩ := leastN_spec (S := fun m => ∃ i G, Conc E G (J i).1 (J i).2 a1 w1 ∧ μ i = m) ⟨i1, G1, hC1, rfl⟩
      refine wp_mono (h i2 hd' mu x G2 a1 w1 hx hd' hC2) fun e a2 w2 ⟨G3, f, s, hC3, hQ⟩ => ?_
      cases e with
      | normal =>
        obtain ⟨i3, hw, hlt⟩ := hQ
        obtain ⟨G4, hC4⟩ := hw E G3 a2 w2 hC3
        refine ⟨⟨i3, G4, hC4⟩, ?_⟩
        have := (leastN_spec (S := fun m => ∃ i G, Conc E G (J i).1 (J i).2 a2 w2 ∧ μ i = m) ⟨i3, G4, hC4, rfl⟩).2 _ ⟨i3, G4, hC4, rfl⟩
        rw [← hμ]
        omega
      | exit id => exact ⟨G3, f, s, hC3, hQ⟩
      | goto l => exact ⟨G3, f, s, hC3, hQ⟩
      | ret => exact ⟨G3, f, s, hC3, hQ⟩
      | panic ch => exact ⟨G3, f, s, hC3, hQ⟩
      | outgrown => exact ⟨G3, f, s, hC3, hQ⟩
    · cases hc
  | region id ops dr => simp only [codeAC] at hc; split at hc; · split at hc <;> cases hc
                        · cases hc
  | cond x t e => simp only [codeAC] at hc; split at hc <;> cases hc
  | seq x y => simp only [codeAC] at hc; split at hc <;> cases hc
  | block id b => simp only [codeAC] at hc; split at hc <;> cases hc
  | _ => cases hc
/-- THE LOOP: a family of frames and states, a condition and a measure. -/
theorem AK.loopI {ι : Type} (J : ι → Fr × St) (I : ι → Prop) (μ : ι → Nat) {b : ACode} (i0 : ι) (hI : I i0) (h0 : Weak fr st (J i0).1 (J i0).2)
    (h : ∀ i, I i → AK P E Q (.c b :: .lp (fun fr st => ∃ i', I i' ∧ Weak fr st (J i').1 (J i').2 ∧ μ i' < μ i) :: k) (J i).1 (J i).2) : AK P E Q (.c (.loop b) :: k) fr st := by
  refine AK.loop (ι := { i // I i }) (fun i => J i.1) (fun i => μ i.1) ⟨i0, hI⟩ h0 fun i => ?_
  have h2 := h i.1 i.2
  have e : (fun fr st => ∃ i' : { i // I i }, Weak fr st (J i'.1).1 (J i'.1).2 ∧ μ i'.1 < μ i.1) = fun fr st => ∃ i', I i' ∧ Weak fr st (J i').1 (J i').2 ∧ μ i' < μ i.1 := by
    funext f s
    exact propext ⟨fun ⟨i', h1, h2⟩ => ⟨i'.1, i'.2, h1, h2⟩, fun ⟨i', hi, h1, h2⟩ => ⟨⟨i', hi⟩, h1, h2⟩⟩
  rw [e]
  exact h2
end
end Go.Proofs.YtpcddcfpbohogaaDoor
