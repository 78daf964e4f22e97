/-
  The texts that the claim wants, one behind the other: part 28.
-/
import Derived.Test.YtgidajjjpeboeaaGreatDoorS27
import Derived.Deep.Quiet
import Derived.BigQuiet
set_option linter.unusedSimpArgs false
set_option linter.unusedVariables false
namespace Go.Proofs.YtgidajjjpeboeaaGreatDoor
open Go.RowKit
section
variable {P : Program} {md : Region.Mode}
def depsAt (md : Region.Mode) (ops : List Oper) (i : Nat) : List Nat := match ops[i]? with
 | some o => (o.after.toList.filter fun e => Region.binds md e).map (·.on)
 | none => []
def cloN (md : Region.Mode) (ops : List Oper) : Nat → List Nat → List Nat
 | 0, l => l
 | n + 1, l => cloN md ops n (l ++ (l.flatMap (depsAt md ops)))
def hasN (l : List Nat) (i : Nat) : Bool := l.any fun j => Nat.beq j i
def unguarded (ops : List Oper) (i : Nat) : Bool := match ops[i]? with
 | some o => o.guard.isNone
 | none => false
def restOk (md : Region.Mode) (ops : List Oper) (n : Nat) : Bool :=
 (List.range ops.length).all (fun i => (depsAt md ops i).all fun d => Nat.blt d i) && (List.range n).all (unguarded ops) &&
 ((List.range n).all (fun i => hasN (cloN md ops n (depsAt md ops n)) i) && (List.range (ops.length - n)).all fun j => Nat.beq j 0 || hasN (depsAt md ops (n + j)) (n + j - 1))
def Closed (md : Region.Mode) (ops : List Oper) (listed : Array Bool) : Prop := ∀ j, listed.getD j false = true → ∀ d ∈ depsAt md ops j, listed.getD d false = true
theorem cloN_listed {ops : List Oper} {listed : Array Bool} (hc : Closed md ops listed) : ∀ (n : Nat) (l : List Nat), (∀ d ∈ l, listed.getD d false = true) → ∀ d ∈ cloN md ops n l, listed.getD d false = true
 | 0, l, h, d, hd => h d hd
 | n + 1, l, h, d, hd => cloN_listed hc n _ (fun d hd => by
  rcases List.mem_append.1 hd with hd | hd
  ·exact h d hd
  ·obtain ⟨j, hj, hd⟩ := List.mem_flatMap.1 hd
   exact hc j (h j hj) d hd) d hd
theorem mem_deps {ops : List Oper} {i d : Nat} {o : Oper} (ho : ops[i]? = some o) : d ∈ depsAt md ops i ↔ ∃ e ∈ o.after, Region.binds md e = true ∧ e.on = d := by
 unfold depsAt
 rw [ho]
 simp only [List.mem_map, List.mem_filter, Array.mem_toList_iff]
 exact ⟨fun ⟨e, ⟨h1, h2⟩, h3⟩ => ⟨e, h1, h2, h3⟩, fun ⟨e, h1, h2, h3⟩ => ⟨e, ⟨h1, h2⟩, h3⟩⟩
theorem ready_deps {ops : List Oper} {listed : Array Bool} {i : Nat} (h : i ∈ Region.ready md ops.toArray listed) : listed.getD i true = false ∧ i < ops.length ∧ ∀ d ∈ depsAt md ops i, listed.getD d false = true := by
 obtain ⟨h1, o, ho, h2⟩ := mem_ready.1 h
 have ho : ops[i]? = some o := by simpa using ho
 refine ⟨h1, (List.getElem?_eq_some_iff.1 ho).1, fun d hd => ?_⟩
 obtain ⟨e, he, hb, rfl⟩ := (mem_deps ho).1 hd
 exact h2 e he hb
theorem hasN_mem {l : List Nat} {i : Nat} (h : hasN l i = true) : i ∈ l := by
 obtain ⟨j, hj, e⟩ := List.any_eq_true.1 h
 exact Nat.eq_of_beq_eq_true e ▸ hj
theorem getD_set {listed : Array Bool} {i j : Nat} (hi : i < listed.size) (d : Bool) : (listed.setIfInBounds i true).getD j d = if j = i then true else listed.getD j d := by
 by_cases h : j = i
 ·subst h
  rw [if_pos rfl]
  simp [Array.getD_eq_getD_getElem?, hi]
 ·rw [if_neg h, getD_set_ne d (fun e => h e.symm)]
theorem Closed.set {ops : List Oper} {listed : Array Bool} {i : Nat} (hz : listed.size = ops.length) (hc : Closed md ops listed) (h : i ∈ Region.ready md ops.toArray listed) : Closed md ops (listed.setIfInBounds i true) := by
 obtain ⟨_, hi, hd⟩ := ready_deps h
 intro j hj d hdj
 rw [getD_set (by omega)] at hj ⊢
 split
 ·rfl
 ·split at hj
  ·rename_i e; subst e; exact hd d hdj
  ·exact hc j hj d hdj
theorem lt_dep {ops : List Oper} {n i d : Nat} (hr : restOk md ops n = true) (hi : i < ops.length) (hd : d ∈ depsAt md ops i) : d < i := by
 unfold restOk at hr
 simp only [Bool.and_eq_true] at hr
 have h1 := List.all_eq_true.1 (List.all_eq_true.1 hr.1.1 i (List.mem_range.2 hi)) d hd
 have h3 : Nat.ble (d + 1) i = true := h1
 have := Nat.le_of_ble_eq_true h3
 omega
theorem wpAny_chain {ops : List Oper} {n : Nat} (hr : restOk md ops n = true) {Q : Exit → Act → World → Prop} : ∀ (m j k : Nat) (listed : Array Bool) (a : Act) (w : World), n + j + m = ops.length → listed.size = ops.length → (∀ i, i < n + j → listed.getD i false = true) → (∀ i, n + j ≤ i → i < ops.length → listed.getD i false = false) →
  wpOps P ops.toArray Q (List.range' (n + j) m) a w → wpAny P md ops.toArray Q (m + k) listed a w
 | 0, j, k, listed, a, w, hl, hz, h1, h2, h => by
  have hn : Region.ready md ops.toArray listed = [] := by
   rw [List.eq_nil_iff_forall_not_mem]
   intro i hi
   obtain ⟨q1, q2, _⟩ := ready_deps hi
   have := h1 i (by omega)
   rw [Array.getD_eq_getD_getElem?, Array.getElem?_eq_getElem (by omega)] at q1 this
   simp at q1 this
   rw [q1] at this
   cases this
  cases k with
  | zero => exact ⟨hn, h⟩
  | succ k => exact ⟨fun _ => h, fun i hi => by rw [hn] at hi; cases hi⟩
 | m + 1, j, k, listed, a, w, hl, hz, h1, h2, h => by
  rw [show m + 1 + k = (m + k) + 1 by omega]
  have only : ∀ i ∈ Region.ready md ops.toArray listed, i = n + j := fun i hi => by
   obtain ⟨q1, q2, q3⟩ := ready_deps hi
   have hge : n + j ≤ i := by
    rcases Nat.lt_or_ge i (n + j) with hlt | hge
    ·have := h1 i hlt
     rw [Array.getD_eq_getD_getElem?, Array.getElem?_eq_getElem (by omega)] at q1 this
     simp at q1 this
     rw [q1] at this
     cases this
    ·exact hge
   rcases Nat.lt_or_ge (n + j) i with hlt | hle
   ·exfalso
    unfold restOk at hr
    simp only [Bool.and_eq_true] at hr
    have h3 := List.all_eq_true.1 hr.2.2 (i - n) (List.mem_range.2 (by omega))
    rw [Bool.or_eq_true] at h3
    rcases h3 with h3 | h3
    ·have := Nat.eq_of_beq_eq_true h3; omega
    ·have h4 := q3 _ (hasN_mem (by rw [show n + (i - n) = i by omega] at h3; exact h3))
     rw [h2 (i - 1) (by omega) (by omega)] at h4
     cases h4
   ·omega
  rw [List.range'_succ, wpOps_cons] at h
  have hset : (∀ i, i < n + (j + 1) → (listed.setIfInBounds (n + j) true).getD i false = true) ∧ (∀ i, n + (j + 1) ≤ i → i < ops.length → (listed.setIfInBounds (n + j) true).getD i false = false) := by
   refine ⟨fun i hi => ?_, fun i hi hl => ?_⟩
   ·rw [getD_set (by omega)]
    split
    ·rfl
    ·exact h1 i (by omega)
   ·rw [getD_set (by omega), if_neg (by omega)]
    exact h2 i (by omega) hl
  have next : wpOp P ops.toArray Q (n + j) (wpAny P md ops.toArray Q (m + k) (listed.setIfInBounds (n + j) true)) a w := wpOp_mono (fun a w hh => wpAny_chain hr m (j + 1) k _ a w (by omega) (by simpa using hz) hset.1 hset.2 hh) h
  refine ⟨fun h0 => ?_, fun i hi => ?_⟩
  ·exfalso
   have hin : n + j ∈ Region.ready md ops.toArray listed := by
    obtain ⟨o, ho⟩ : ∃ o, ops[n + j]? = some o := ⟨_, List.getElem?_eq_getElem (by omega)⟩
    refine mem_ready.2 ⟨?_, o, by simp [ho], fun e he hb => ?_⟩
    ·have := h2 (n + j) (Nat.le_refl _) (by omega)
     rw [Array.getD_eq_getD_getElem?, Array.getElem?_eq_getElem (by omega)] at this ⊢
     simpa using this
    ·exact h1 _ (lt_dep hr (by omega) ((mem_deps ho).2 ⟨e, he, hb, rfl⟩))
   rw [h0] at hin
   cases hin
  ·rw [only i hi]
   exact next
theorem take_at {ops : List Oper} {n i : Nat} (hi : i < n) : (ops.take n).toArray[i]? = ops.toArray[i]? := by
 simp [List.getElem?_take, hi]
theorem ready_take {ops : List Oper} {n i : Nat} {listed : Array Bool} (hi : i < n) : i ∈ Region.ready md (ops.take n).toArray listed ↔ i ∈ Region.ready md ops.toArray listed := by
 rw [mem_ready, mem_ready, take_at hi]
theorem firstFalse (f : Nat → Bool) : ∀ n : Nat, (∀ i, i < n → f i = true) ∨ ∃ m, m < n ∧ f m = false ∧ ∀ j, j < m → f j = true
 | 0 => .inl fun i hi => by omega
 | n + 1 => by
  rcases firstFalse f n with h | ⟨m, h1, h2⟩
  ·cases hf : f n with
   | true =>
    refine .inl fun i hi => ?_
    by_cases e : i = n
    ·rw [e]; exact hf
    ·exact h i (by omega)
   | false => exact .inr ⟨n, by omega, hf, h⟩
  ·exact .inr ⟨m, by omega, h2⟩
theorem getD_tf {listed : Array Bool} {i : Nat} (h : i < listed.size) : listed.getD i true = listed.getD i false := by
 rw [Array.getD_eq_getD_getElem?, Array.getD_eq_getD_getElem?, Array.getElem?_eq_getElem h]
 rfl
theorem wpAny_pre {C : World → Prop} {Qq : Act → Prop} {Q : Exit → Act → World → Prop} {ops : List Oper} {n : Nat} (hn : n < ops.length) (hr : restOk md ops n = true) (hQ : ∀ a w, C w → Qq a → wpOps P ops.toArray Q (List.range' n (ops.length - n)) a w) :
  ∀ (fuel : Nat) (listed : Array Bool) (a : Act) (w : World), C w → listed.size = ops.length → Closed md ops listed → (∀ i, n ≤ i → i < ops.length → listed.getD i false = false) → wpAnyQ P md (ops.take n).toArray C Qq fuel listed a → wpAny P md ops.toArray Q (fuel + (ops.length - n)) listed a w := by
 intro fuel
 induction fuel with
 | zero =>
  intro listed a w hw hz hc hl h
  rcases firstFalse (fun j => listed.getD j false) n with hall | ⟨m, h1, h2, h3⟩
  ·have h2 := wpAny_chain hr (Q := Q) (P := P) (ops.length - n) 0 0 listed a w (by omega) hz (fun i hi => hall i (by omega)) (fun i hi hlt => hl i (by omega) hlt) (hQ a w hw h.2)
   rw [Nat.add_zero] at h2
   rw [Nat.zero_add]
   exact h2
  ·exfalso
   have hin : m ∈ Region.ready md (ops.take n).toArray listed := by
    rw [ready_take h1]
    have ho : ops[m]? = some ops[m] := List.getElem?_eq_getElem (by omega)
    refine mem_ready.2 ⟨?_, ops[m], by simp [ho], fun e he hb => ?_⟩
    ·rw [getD_tf (by omega)]; exact h2
    ·exact h3 _ (lt_dep hr (by omega) ((mem_deps ho).2 ⟨e, he, hb, rfl⟩))
   rw [h.1] at hin
   cases hin
 | succ fuel ih =>
  intro listed a w hw hz hc hl h
  rcases firstFalse (fun j => listed.getD j false) n with hall | ⟨m, h1, h2, h3⟩
  ·have hq : Qq a := h.1 (by
    rw [List.eq_nil_iff_forall_not_mem]
    intro i hi
    have hin : i < n := by
     obtain ⟨_, o, ho, _⟩ := mem_ready.1 hi
     have := (Array.getElem?_eq_some_iff.1 ho).1
     simp at this
     omega
    rw [ready_take hin] at hi
    obtain ⟨q1, _, _⟩ := ready_deps hi
    rw [getD_tf (by omega)] at q1
    have h9 : listed.getD i false = true := hall i hin
    rw [q1] at h9
    cases h9)
   have h2 := wpAny_chain hr (Q := Q) (P := P) (ops.length - n) 0 (fuel + 1) listed a w (by omega) hz (fun i hi => hall i (by omega)) (fun i hi hlt => hl i (by omega) hlt) (hQ a w hw hq)
   rw [Nat.add_comm]
   exact h2
  ·have ready_m : m ∈ Region.ready md ops.toArray listed := by
    have ho : ops[m]? = some ops[m] := List.getElem?_eq_getElem (by omega)
    refine mem_ready.2 ⟨?_, ops[m], by simp [ho], fun e he hb => ?_⟩
    ·rw [getD_tf (by omega)]; exact h2
    ·exact h3 _ (lt_dep hr (by omega) ((mem_deps ho).2 ⟨e, he, hb, rfl⟩))
   rw [show fuel + 1 + (ops.length - n) = fuel + (ops.length - n) + 1 by omega]
   refine ⟨fun h0 => (by rw [h0] at ready_m; cases ready_m), fun i hi => ?_⟩
   obtain ⟨q1, q2, q3⟩ := ready_deps hi
   have hin : i < n := by
    rcases Nat.lt_or_ge i n with hlt | hge
    ·exact hlt
    ·exfalso
     have hr' := hr
     unfold restOk at hr'
     simp only [Bool.and_eq_true] at hr'
     -- what is behind operation n is listed
     by_cases e : i = n
     ·subst e
      have h4 := cloN_listed hc i _ q3 m (hasN_mem (List.all_eq_true.1 hr'.2.1 m (List.mem_range.2 h1)))
      rw [h2] at h4
      cases h4
     ·have h5 := List.all_eq_true.1 hr'.2.2 (i - n) (List.mem_range.2 (by omega))
      rw [Bool.or_eq_true] at h5
      rcases h5 with h5 | h5
      ·have := Nat.eq_of_beq_eq_true h5; omega
      ·have h6 := q3 _ (hasN_mem (by rw [show n + (i - n) = i by omega] at h5; exact h5))
       rw [hl (i - 1) (by omega) (by omega)] at h6
       cases h6
   have hi2 : i ∈ Region.ready md (ops.take n).toArray listed := (ready_take hin).2 hi
   have hq := h.2 i hi2
   have hu : unguarded ops i = true := by
    unfold restOk at hr
    simp only [Bool.and_eq_true] at hr
    exact List.all_eq_true.1 hr.1.2 i (List.mem_range.2 hin)
   have ho : ops[i]? = some ops[i] := List.getElem?_eq_getElem (by omega)
   have hgd : ops[i].guard = none := by
    unfold unguarded at hu
    rw [ho] at hu
    exact Option.isNone_iff_eq_none.1 hu
   have hq2 : qOp P ops.toArray C i (wpAnyQ P md (ops.take n).toArray C Qq fuel (listed.setIfInBounds i true)) a := by
    unfold qOp at hq ⊢
    rw [take_at hin] at hq
    simp only [show ops.toArray[i]? = some ops[i] by simp [ho]] at hq ⊢
    split at hq
    ·rename_i hw1
     split
     ·exact hq
     ·rename_i hw2; exact absurd (by unfold Region.wanted; rw [hgd]) hw2
    ·rename_i hw1; exact absurd (by unfold Region.wanted; rw [hgd]) hw1
   refine wpOp_of_qOp hw (fun a' w' hw' hh => ih (listed.setIfInBounds i true) a' w' hw' (by simpa using hz) (hc.set hz hi) (fun j hj hjl => ?_) hh) hq2
   rw [getD_set (by omega), if_neg (by omega)]
   exact hl j hj hjl
theorem wp_region_split {C : World → Prop} {id : Nat} {Q : Exit → Act → World → Prop} {a : Act} {w : World} {ops : List Oper} (n : Nat) (hm : P.follows .mixedOrders = true) (hn : n < ops.length) (hr : restOk .any ops n = true) (hB : Region.lexB .any (ops.take n).toArray = true) (hlex : Region.lexFrom .any (ops.take n).toArray (ops.take n).length 0 (Array.replicate ops.length false) = true) (hC : C { w with drawn := w.drawn + 1 })
  (h : wpQuiet P (ops.take n).toArray C (fun a' => ∀ w', C w' → wpOps P ops.toArray Q (List.range' n (ops.length - n)) a' w') (ops.take n) a) : (Code.region id ops.toArray true).wp P Q a w := by
 simp only [Region.lexB, Bool.and_eq_true] at hB
 refine wp_region_any hm ?_
 have h1 := wpAnyQ_lex (C := C) (md := .any) hB.1 (ops.take n) 0 (Array.replicate ops.length false) a (by simp) hlex h
 have h2 := wpAny_pre hn hr (Q := Q) (fun a w hw hq => hq w hw) _ (Array.replicate ops.length false) a { w with drawn := w.drawn + 1 } hC (by simp) (fun j hj => by
  rw [Array.getD_eq_getD_getElem?, Array.getElem?_replicate] at hj
  split at hj <;> simp at hj) (fun i _ hi => by rw [Array.getD_eq_getD_getElem?, Array.getElem?_replicate, if_pos hi]; rfl) h1
 rw [List.length_take, Nat.min_eq_left (Nat.le_of_lt hn), show n + (ops.length - n) = ops.length by omega] at h2
 simpa using h2
end
theorem or_at (W : World) (a b c d : Int) : Calls Tryz.prog 74 #[.slice (some ⟨W.heap.size, 0, none⟩) 4 4] (W.alloc (.cells #[.int .i64 a, .int .i64 b, .int .i64 c, .int .i64 d] 3)) fun e w' => e = .returned (.int .i64 (or4 a b c d)) ∧ w' = W.alloc (.cells #[.int .i64 a, .int .i64 b, .int .i64 c, .int .i64 d] 3) := by
 have hb := heap_alloc_new W (.cells #[.int .i64 a, .int .i64 b, .int .i64 c, .int .i64 d] 3)
 exact or_any a b c d _ _ _ (cell_of_row _ _ 0 _ _ _ hb) (cell_of_row _ _ 1 _ _ _ hb) (cell_of_row _ _ 2 _ _ _ hb) (cell_of_row _ _ 3 _ _ _ hb)
theorem grow3 (w : World) (A B C : Obj) (m : Nat) : (((w.alloc A).alloc B).drewN m).alloc C = Go.Sort.grow (w.drewN m) #[A, B, C] := by
 have h : (((w.heap.push A).push B).push C) = w.heap ++ #[A, B, C] := by
  apply Array.ext'
  simp
 unfold Go.Sort.grow World.drewN World.alloc
 simp only
 rw [← h]
theorem wpOps_step {P : Program} {ops : Array Oper} {Q : Exit → Act → World → Prop} {i : Nat} {rest : List Nat} {o : Oper} {a : Act} {w : World} (ho : ops[i]? = some o) (hg : o.guard = none) (h : o.wp P a w (wpOps P ops Q rest) Q) : wpOps P ops Q (i :: rest) a w := by
 rw [wpOps_cons]
 unfold wpOp
 simp only [ho]
 rw [if_pos (by unfold Region.wanted; rw [hg])]
 exact .inl h
set_option maxHeartbeats 1000000 in
set_option maxRecDepth 100000 in
theorem compare_any (k s n k' s' n' : ByteArray) (w : World) (hg : GW w) : Calls Tryz.prog 41 #[.agg #[.string k, .string s, .string n], .agg #[.string k', .string s', .string n']] w fun e w' => e = .returned (.int .i64 (cmpO k s n k' s' n')) ∧ ∃ q os, w' = Go.Sort.grow (w.drewN q) os := by
 obtain ⟨R, hR⟩ : ∃ R, cmpO k s n k' s' n' = R := ⟨_, rfl⟩
 rw [hR]
 unfold cmpO at hR
 obtain ⟨r1, hr1⟩ : ∃ r : Int, (rankB k : Int) = r := ⟨_, rfl⟩
 obtain ⟨r2, hr2⟩ : ∃ r : Int, (rankB k' : Int) = r := ⟨_, rfl⟩
 obtain ⟨c1, hc1⟩ : ∃ r : Int, cmpN r1 r2 = r := ⟨_, rfl⟩
 obtain ⟨c2, hc2⟩ : ∃ r : Int, cmpS k k' = r := ⟨_, rfl⟩
 obtain ⟨c3, hc3⟩ : ∃ r : Int, cmpS s s' = r := ⟨_, rfl⟩
 obtain ⟨c4, hc4⟩ : ∃ r : Int, cmpS n n' = r := ⟨_, rfl⟩
 rw [hr1, hr2, hc1, hc2, hc3, hc4] at hR
 obtain ⟨W, hW⟩ : ∃ W : World, (w.alloc (.cells #[.string k, .string s, .string n] 24)).alloc (.cells #[.string k', .string s', .string n'] 24) = W := ⟨_, rfl⟩
 have hgW : GW W := by rw [← hW]; exact hg.below (((Below.refl _ _).alloc (Nat.le_refl _) _).alloc (by simp) _)
 have f1 : ∀ m, Calls Tryz.prog 75 #[.string k] (W.drewN m) fun e w' => e = .returned (.int .i64 r1) ∧ ∃ m', w' = W.drewN m' := fun m => (hr1 ▸ rank_any k (W.drewN m) (hgW.below (below_drewN (Below.refl _ _) m))).mono fun e w' h => ⟨h.1, m, h.2⟩
 have f2 : ∀ m, Calls Tryz.prog 75 #[.string k'] (W.drewN m) fun e w' => e = .returned (.int .i64 r2) ∧ ∃ m', w' = W.drewN m' := fun m => (hr2 ▸ rank_any k' (W.drewN m) (hgW.below (below_drewN (Below.refl _ _) m))).mono fun e w' h => ⟨h.1, m, h.2⟩
 have f3 : ∀ m, Calls Tryz.prog 54 #[.int .i64 r1, .int .i64 r2] (W.drewN m) fun e w' => e = .returned (.int .i64 c1) ∧ ∃ m', w' = W.drewN m' := fun m => (hc1 ▸ cmpI_any r1 r2 (W.drewN m)).mono fun e w' h => ⟨h.1, m, h.2⟩
 have f4 : ∀ m, Calls Tryz.prog 76 #[.string k, .string k'] (W.drewN m) fun e w' => e = .returned (.int .i64 c2) ∧ ∃ m', w' = W.drewN m' := fun m => (hc2 ▸ cmpS_any k k' (W.drewN m)).mono fun e w' h => ⟨h.1, m, h.2⟩
 have f5 : ∀ m, Calls Tryz.prog 76 #[.string s, .string s'] (W.drewN m) fun e w' => e = .returned (.int .i64 c3) ∧ ∃ m', w' = W.drewN m' := fun m => (hc3 ▸ cmpS_any s s' (W.drewN m)).mono fun e w' h => ⟨h.1, m, h.2⟩
 have f6 : ∀ m, Calls Tryz.prog 76 #[.string n, .string n'] (W.drewN m) fun e w' => e = .returned (.int .i64 c4) ∧ ∃ m', w' = W.drewN m' := fun m => (hc4 ▸ cmpS_any n n' (W.drewN m)).mono fun e w' h => ⟨h.1, m, h.2⟩
 have hWz : W.heap.size = w.heap.size + 1 + 1 := by rw [← hW]; simp only [World.size_alloc]
 have b1 : W.heap[w.heap.size]? = some (.cells #[.string k, .string s, .string n] 24 (0, 0)) := by
  rw [← hW]
  exact (heap_alloc_old _ _ (by simp only [World.size_alloc]; omega)).trans (heap_alloc_new _ _)
 have b2 : W.heap[w.heap.size + 1]? = some (.cells #[.string k', .string s', .string n'] 24 (0, 0)) := by
  rw [← hW]
  have := heap_alloc_new (w.alloc (.cells #[.string k, .string s, .string n] 24)) (.cells #[.string k', .string s', .string n'] 24)
  rw [World.size_alloc] at this
  exact this
 have x0 : W.cell? ⟨w.heap.size, 0, none⟩ = some (.string k) := cell_of_row W _ 0 _ _ _ b1
 have x1 : W.cell? ⟨w.heap.size, 1, none⟩ = some (.string s) := cell_of_row W _ 1 _ _ _ b1
 have x2 : W.cell? ⟨w.heap.size, 2, none⟩ = some (.string n) := cell_of_row W _ 2 _ _ _ b1
 have y0 : W.cell? ⟨w.heap.size + 1, 0, none⟩ = some (.string k') := cell_of_row W _ 0 _ _ _ b2
 have y1 : W.cell? ⟨w.heap.size + 1, 1, none⟩ = some (.string s') := cell_of_row W _ 1 _ _ _ b2
 have y2 : W.cell? ⟨w.heap.size + 1, 2, none⟩ = some (.string n') := cell_of_row W _ 2 _ _ _ b2
 have HR := Lib.hid hR
 clear b1 b2 hR
 clear hr1 hr2 hc1 hc2 hc3 hc4 hg hgW
 go_enter Tryz.func41, Tryz.ntmps41
 go_wp2_with fail
 try rw [hW]
 refine wp_region_split 22 (C := fun w' => ∃ m, w' = W.drewN m) (by kernel_rfl) (by simp) (by kernel_rfl) (by kernel_rfl) (by kernel_rfl) ⟨1, rfl⟩ ?_
 have HW := Lib.hid hW
 have HZ := Lib.hid hWz
 clear hW hWz
 simp only [List.take_succ_cons, List.take_zero]
 iterate 22 (go_big_quiet_step (first | with_reducible exact f1 _ | with_reducible exact f2 _ | with_reducible exact f3 _ | with_reducible exact f4 _ | with_reducible exact f5 _ | with_reducible exact f6 _))
 refine wpQuiet_nil ?_
 rintro _ ⟨m, rfl⟩
 show wpOps _ _ _ [22, 23, 24] _ _
 refine wpOps_step rfl rfl ?_
 refine op_value (v := .slice (some ⟨(W.drewN m).heap.size, 0, none⟩) 4 4) (w' := (W.drewN m).alloc (.cells #[.int .i64 c1, .int .i64 c2, .int .i64 c3, .int .i64 c4] 3)) (by
  simp [execOp, go_sem]) rfl ?_
 refine wpOps_step rfl rfl ?_
 unfold Oper.wp
 rw [enter_run (fid := 74) (us := []) rfl rfl (by kernel_rfl) rfl, Oper.upon_enter]
 refine (or_at (W.drewN m) c1 c2 c3 c4).mono ?_
 rintro e1 w1 ⟨rfl, rfl⟩
 refine wpOps_step rfl rfl ?_
 refine op_value (v := .int .i64 (or4 c1 c2 c3 c4)) (w' := (W.drewN m).alloc (.cells #[.int .i64 c1, .int .i64 c2, .int .i64 c3, .int .i64 c4] 3)) rfl rfl ?_
 rename_i K hK
 refine hK _ _ ?_
 simp only [Act.put, Array.setIfInBounds]
 refine wp_ret ?_
 refine bodyPost_ret (v := .int .i64 (or4 c1 c2 c3 c4)) (by simp [results, Tryz.results41, go_sem]) rfl ?_
 refine ⟨by rw [HR.out], m, #[.cells #[.string k, .string s, .string n] 24 (0, 0), .cells #[.string k', .string s', .string n'] 24 (0, 0), .cells #[.int .i64 c1, .int .i64 c2, .int .i64 c3, .int .i64 c4] 3 (0, 0)], ?_⟩
 rw [← HW.out]
 exact grow3 _ _ _ _ _
end Go.Proofs.YtgidajjjpeboeaaGreatDoor
