/-
  The texts that the claim wants, one behind the other: part 26.
-/
import Derived.Test.YtgidajjjpeboeaaGreatDoorS25
import Derived.Shelf.SlSortCmp.Insertion
set_option linter.unusedSimpArgs false
set_option linter.unusedVariables false
namespace Go.Proofs.YtgidajjjpeboeaaGreatDoor
open Go.RowKit
def ordL : List ByteArray := [⟨#[78, 97, 109, 101, 115, 112, 97, 99, 101]⟩, ⟨#[83, 101, 99, 114, 101, 116]⟩, ⟨#[67, 111, 110, 102, 105, 103, 77, 97, 112]⟩, ⟨#[86, 111, 108, 117, 109, 101]⟩, ⟨#[65, 99, 99, 111, 117, 110, 116]⟩, ⟨#[82, 111, 108, 101]⟩, ⟨#[83, 101, 114, 118, 105, 99, 101]⟩, ⟨#[68, 101, 112, 108, 111, 121, 109, 101, 110, 116]⟩, ⟨#[74, 111, 98]⟩, ⟨#[73, 110, 103, 114, 101, 115, 115]⟩]
def rankIn (k : ByteArray) : List ByteArray → Nat
 | [] => 0
 | x :: l => if x = k then 0 else rankIn k l + 1
def rankB (k : ByteArray) : Nat := rankIn k ordL
theorem rankIn_le (k : ByteArray) : ∀ l, rankIn k l ≤ l.length
 | [] => Nat.le_refl _
 | x :: l => by have := rankIn_le k l; rw [rankIn]; split <;> simp <;> omega
theorem rank_le (k : ByteArray) : rankB k ≤ 10 := rankIn_le k ordL
def cmpN (a b : Int) : Int := if a < b then -1 else if b < a then 1 else 0
def or4 (a b c d : Int) : Int := if a ≠ 0 then a else if b ≠ 0 then b else if c ≠ 0 then c else d
def cmpO (k s n k' s' n' : ByteArray) : Int := or4 (cmpN (rankB k) (rankB k')) (cmpS k k') (cmpS s s') (cmpS n n')
theorem cmpS_anti (a b : ByteArray) : (0 < cmpS a b ↔ klt b a) := by
 constructor
 ·intro h
  exact klt_tri (by omega) (by omega)
 ·intro h
  have h1 : ¬ cmpS a b < 0 := fun h2 => by
   have := klt_trans (cmpS_lt.1 h2) h
   exact klt_ne this rfl
  have h2 : cmpS a b ≠ 0 := fun h2 => by
   rw [cmpS_eq] at h2
   subst h2
   exact klt_ne h rfl
  omega
structure CmpOk {α : Type} (c : α → α → Int) : Prop where
 eq : ∀ a b, c a b = 0 ↔ a = b
 anti : ∀ a b, 0 < c a b ↔ c b a < 0
 trans : ∀ a b d, c a b < 0 → c b d < 0 → c a d < 0
theorem cmpS_ok : CmpOk cmpS where
 eq := fun a b => cmpS_eq
 anti := fun a b => by rw [cmpS_anti, cmpS_lt]
 trans := fun a b d h k => by rw [cmpS_lt] at *; exact klt_trans h k
theorem cmpN_ok : CmpOk (fun a b : Int => cmpN a b) where
 eq := fun a b => by unfold cmpN; (repeat' split) <;> omega
 anti := fun a b => by unfold cmpN; (repeat' split) <;> omega
 trans := fun a b d => by unfold cmpN; (repeat' split) <;> omega
theorem CmpOk.lex {α β : Type} {c : α → α → Int} {d : β → β → Int} (hc : CmpOk c) (hd : CmpOk d) : CmpOk fun (x y : α × β) => if c x.1 y.1 ≠ 0 then c x.1 y.1 else d x.2 y.2 where
 eq := fun a b => by
  constructor
  ·intro h
   split at h
   ·rename_i h1; exact absurd h h1
   ·rename_i h1
    exact Prod.ext ((hc.eq _ _).1 (Decidable.not_not.1 h1)) ((hd.eq _ _).1 h)
  ·rintro rfl
   rw [if_neg (fun h => h ((hc.eq _ _).2 rfl))]
   exact (hd.eq _ _).2 rfl
 anti := fun a b => by
  have h0 : c a.1 b.1 = 0 ↔ c b.1 a.1 = 0 := by rw [hc.eq, hc.eq]; exact ⟨fun h => h.symm, fun h => h.symm⟩
  by_cases h : c a.1 b.1 = 0
  ·rw [if_neg (fun k => k h), if_neg (fun k => k (h0.1 h))]
   exact hd.anti _ _
  ·rw [if_pos h, if_pos (fun k => h (h0.2 k))]
   exact hc.anti _ _
 trans := fun a b e h k => by
  by_cases h1 : c a.1 b.1 = 0
  ·have e1 := (hc.eq _ _).1 h1
   rw [if_neg (fun k => k h1)] at h
   rw [← e1] at k
   by_cases h2 : c a.1 e.1 = 0
   ·rw [if_neg (fun k => k h2)] at k ⊢
    exact hd.trans _ _ _ h k
   ·rw [if_pos h2] at k ⊢
    exact k
  ·rw [if_pos h1] at h
   by_cases h2 : c b.1 e.1 = 0
   ·have e2 := (hc.eq _ _).1 h2
    rw [← e2, if_pos h1]
    exact h
   ·rw [if_pos h2] at k
    have h3 := hc.trans _ _ _ h k
    rw [if_pos (by omega)]
    exact h3
theorem CmpOk.by_ {α β : Type} {c : α → α → Int} (hc : CmpOk c) {f : β → α} (hf : ∀ x y, f x = f y → x = y) : CmpOk fun x y => c (f x) (f y) where
 eq := fun a b => by rw [hc.eq]; exact ⟨hf a b, fun h => by rw [h]⟩
 anti := fun a b => hc.anti _ _
 trans := fun a b d => hc.trans _ _ _
theorem CmpOk.swo {α : Type} {c : α → α → Int} (hc : CmpOk c) : Sort.SWO (ltOf c) where
 irrefl := fun x => decide_eq_false (by rw [(hc.eq x x).2 rfl]; omega)
 trans := fun x y z h k => decide_eq_true (hc.trans x y z (of_decide_eq_true h) (of_decide_eq_true k))
 ntrans := fun x y z h k => by
  have h := of_decide_eq_false h
  have k := of_decide_eq_false k
  refine decide_eq_false fun hlt => ?_
  by_cases e : c x y = 0
  ·rw [(hc.eq x y).1 e] at hlt
   exact k hlt
  ·have h1 := (hc.anti x y).1 (by omega)
   exact k (hc.trans y x z h1 hlt)
theorem CmpOk.tot {α : Type} {c : α → α → Int} (hc : CmpOk c) (x y : α) (h : ltOf c x y = false) (k : ltOf c y x = false) : x = y := by
 have h := of_decide_eq_false h
 have k := of_decide_eq_false k
 refine (hc.eq x y).1 ?_
 by_cases e : 0 < c x y
 ·exact absurd ((hc.anti x y).1 e) k
 ·omega
abbrev Id3 := ByteArray × ByteArray × ByteArray
def cmpId (a b : Id3) : Int := cmpO a.1 a.2.1 a.2.2 b.1 b.2.1 b.2.2
theorem cmpI_ok : CmpOk cmpId := by
 have h := ((cmpN_ok.lex (cmpS_ok.lex (cmpS_ok.lex cmpS_ok))).by_ (f := fun a : Id3 => ((rankB a.1 : Int), a.1, a.2.1, a.2.2)) (fun x y e => by
  simp only [Prod.mk.injEq] at e
  exact Prod.ext e.2.1 (Prod.ext e.2.2.1 e.2.2.2)))
 refine cast (congrArg CmpOk (funext fun a => funext fun b => ?_)) h
 unfold cmpId cmpO or4
 rfl
end Go.Proofs.YtgidajjjpeboeaaGreatDoor
