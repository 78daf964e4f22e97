/-
  The texts that the claim wants, one behind the other: part 39.
-/
import Derived.Test.YtnpkejnaeemgjaaGreatDoorS38
import Derived.Shelf.SlSortCmp.Insertion
set_option linter.unusedSimpArgs false
set_option linter.unusedVariables false
namespace Go.Proofs.YtnpkejnaeemgjaaGreatDoor
open Go.RowKit
theorem cmpS_anti (a b : ByteArray) : (0 < cmpS a b ↔ klt b a) := by
 constructor
 ·intro h
  exact klt_tri (by omega) (by omega)
 ·intro h
  have h1 : ¬ cmpS a b < 0 := fun h2 => by
   have := klt_trans (cmpS_lt.1 h2) h
   exact klt_ne this rfl
  have h2 : cmpS a b ≠ 0 := fun h2 => by
   rw [cmpS_eq] at h2
   subst h2
   exact klt_ne h rfl
  omega
structure CmpOk {α : Type} (c : α → α → Int) : Prop where
 eq : ∀ a b, c a b = 0 ↔ a = b
 anti : ∀ a b, 0 < c a b ↔ c b a < 0
 trans : ∀ a b d, c a b < 0 → c b d < 0 → c a d < 0
theorem cmpS_ok : CmpOk cmpS where
 eq := fun a b => cmpS_eq
 anti := fun a b => by rw [cmpS_anti, cmpS_lt]
 trans := fun a b d h k => by rw [cmpS_lt] at *; exact klt_trans h k
theorem CmpOk.by_ {α β : Type} {c : α → α → Int} (hc : CmpOk c) {f : β → α} (hf : ∀ x y, f x = f y → x = y) : CmpOk fun x y => c (f x) (f y) where
 eq := fun a b => by rw [hc.eq]; exact ⟨hf a b, fun h => by rw [h]⟩
 anti := fun a b => hc.anti _ _
 trans := fun a b d => hc.trans _ _ _
theorem CmpOk.swo {α : Type} {c : α → α → Int} (hc : CmpOk c) : Sort.SWO (ltOf c) where
 irrefl := fun x => decide_eq_false (by rw [(hc.eq x x).2 rfl]; omega)
 trans := fun x y z h k => decide_eq_true (hc.trans x y z (of_decide_eq_true h) (of_decide_eq_true k))
 ntrans := fun x y z h k => by
  have h := of_decide_eq_false h
  have k := of_decide_eq_false k
  refine decide_eq_false fun hlt => ?_
  by_cases e : c x y = 0
  ·rw [(hc.eq x y).1 e] at hlt
   exact k hlt
  ·have h1 := (hc.anti x y).1 (by omega)
   exact k (hc.trans y x z h1 hlt)
theorem CmpOk.tot {α : Type} {c : α → α → Int} (hc : CmpOk c) (x y : α) (h : ltOf c x y = false) (k : ltOf c y x = false) : x = y := by
 have h := of_decide_eq_false h
 have k := of_decide_eq_false k
 refine (hc.eq x y).1 ?_
 by_cases e : 0 < c x y
 ·exact absurd ((hc.anti x y).1 e) k
 ·omega
end Go.Proofs.YtnpkejnaeemgjaaGreatDoor
