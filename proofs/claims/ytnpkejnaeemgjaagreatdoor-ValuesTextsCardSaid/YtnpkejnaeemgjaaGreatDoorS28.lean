/-
  The texts that the claim wants, one behind the other: part 28.
-/
import Derived.Test.YtnpkejnaeemgjaaGreatDoorS27
set_option linter.unusedSimpArgs false
set_option linter.unusedVariables false
namespace Go.Proofs.YtnpkejnaeemgjaaGreatDoor
open Go.RowKit
def privN : List (Nat × List AV × Bool) → Prop
 | [] => True
 | (s, cs, _) :: L => match Nat.ble 1000000 s with
  | true => cs.all AV.noFrs = true ∧ privN L
  | false => privN L
theorem boxN_noFrs {L : List (Nat × AV)} {BL : List (Nat × List AV × Bool)} (hp : ptrOk L BL = true) (hpr : privN BL) : ∀ y ∈ BL, ∀ d ∈ y.2.1, d.noFrs = true := by
 intro y hy
 have h1 : ∀ z ∈ BL, (match Nat.ble 1000000 z.1 with | true => true | false => z.2.1.all AV.noFrs) = true := by
  unfold ptrOk at hp
  rw [Bool.and_eq_true] at hp
  exact List.all_eq_true.1 hp.2
 have h2 := h1 y hy
 cases hb : Nat.ble 1000000 y.1 with
 | false => rw [hb] at h2; exact List.all_eq_true.1 h2
 | true =>
  have h3 : ∀ (BL : List (Nat × List AV × Bool)), privN BL → ∀ y ∈ BL, Nat.ble 1000000 y.1 = true → y.2.1.all AV.noFrs = true := by
   intro BL
   induction BL with
   | nil => intro _ y hy; cases hy
   | cons z L ih =>
    intro hz y hy hb
    obtain ⟨s, cs, fz⟩ := z
    unfold privN at hz
    rcases List.mem_cons.1 hy with rfl | hy
    ·simp only at hb
     rw [hb] at hz
     exact hz.1
    ·split at hz
     ·exact ih hz.2 y hy hb
     ·exact ih hz y hy hb
  exact List.all_eq_true.1 (h3 BL hpr y hy hb)
theorem Weak.introN {fr : Fr} {st : St} {L : List (Nat × AV)} {BL : List (Nat × List AV × Bool)} {row : Nat → Nat} (h1 : slotsLe st fr L) (h2 : boxesLe st BL) (h3 : st.row = row) (h4 : ptrOk L BL = true) (h5 : privN BL) : Weak fr st (frOf L) ⟨boxOf BL, row⟩ := by
 intro E G a w h
 subst h3
 have hB' : ∀ id g, (if boxOf BL id = none then none else G.B id) = some g → G.B id = some g := fun id g hg => by
  split at hg
  ·cases hg
  ·exact hg
 have hx : G.less { G with B := fun id => if boxOf BL id = none then none else G.B id, φ := fun _ => none } := ⟨rfl, rfl, hB'⟩
 refine ⟨{ G with B := fun id => if boxOf BL id = none then none else G.B id, φ := fun _ => none },
  { defers := h.defers
    size := h.size
    slots := fun s x hs => ?_
    hold := h.hold
    ext := h.ext
    below := h.below
    box := fun id cs fz hs => ?_
    bnone := fun id hs => by simp only at hs ⊢; rw [if_pos hs]
    binj := fun id id' g h1 h2 => h.binj id id' g (hB' id g h1) (hB' id' g h2)
    row := fun s r hs => ⟨(h.row s r hs).1, fun id hid => (h.row s r hs).2 id (hB' id _ hid)⟩
    rinj := h.rinj
    rlt := h.rlt
    phi := fun k x hk => by cases hk
    phinj := fun k k' x x' hk => by cases hk
    pnone := fun _ _ => rfl
    small := h.small
    keep := fun id g h1 h2 => h.keep id g h1 (hB' id g h2) }⟩
 ·have hm := frOf_mem hs
  obtain ⟨v0, hv0, hvle⟩ := slotsLe_mem h1 _ hm
  have hp0 := h4
  unfold ptrOk at hp0
  rw [Bool.and_eq_true] at hp0
  have hp := List.all_eq_true.1 hp0.1 _ hm
  simp only at hp hvle
  refine (h.slots s v0 hv0).le h hx ?_ (fun id off g e hg => ?_) hvle
  ·cases x <;> first | rfl | exact hp
  ·subst e
   simp only [List.any_eq_true] at hp
   obtain ⟨y, hy, hyb⟩ := hp
   simp only
   rw [if_neg (boxOf_some hy (Nat.eq_of_beq_eq_true hyb))]
   exact hg
 ·have hm := boxOf_mem hs
  obtain ⟨ds, hds, hdle⟩ := boxesLe_mem h2 _ hm
  obtain ⟨g, k1, k2, t, vs, k3, k4, k5, k6⟩ := h.box id ds fz hds
  obtain ⟨q1, q2⟩ := cells_le h hx k4 k5 (boxN_noFrs h4 h5 _ hm) hdle
  refine ⟨g, ?_, k2, t, vs, k3, q1, q2, k6⟩
  simp only at hs ⊢
  rw [if_neg (by rw [hs]; simp)]
  exact k1
end Go.Proofs.YtnpkejnaeemgjaaGreatDoor
