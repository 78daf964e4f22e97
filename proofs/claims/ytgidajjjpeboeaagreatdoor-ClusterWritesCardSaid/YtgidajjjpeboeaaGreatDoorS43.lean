/-
  The texts that the claim wants, one behind the other: part 43.
-/
import Derived.Test.YtgidajjjpeboeaaGreatDoorS42
import Derived.Test.YtgidajjjpeboeaaGreatDoorChecked
import Derived.KernelRfl
set_option linter.unusedSimpArgs false
set_option linter.unusedVariables false
namespace Go.Proofs.YtgidajjjpeboeaaGreatDoor
open Go.RowKit
def okAll (S : List (GI × Option RS)) (X : Nat → Option XSpec) (b : Option Nat) : Bool := match b with
 | none => true
 | b => (List.range S.length).all fun j => match S[j]? with
  | some (xj, rj) => !isCalls xj || okC rj (X j) b
  | none => true
def rsT (rj : Option RS) (Xj : Option XSpec) : Bool := match Xj with
 | some _ => true
 | none => match rj with
  | some (.s _ _ _) => true
  | some (.v _) => true
  | _ => false
def chkL (ds : List (List Nat)) (S : List (GI × Option RS)) (X : Nat → Option XSpec) : List (Bool × Nat) → Array Bool → Bool
 | [], listed => (rdy ds listed).isEmpty
 | (e, i) :: o, listed => (rdy ds listed).contains i && (match S[i]? with
  | some (xi, _) => (!e || (X i).isNone) && (List.range ds.length).all fun j => Nat.beq j i || listed.getD j true || depB ds ds.length j i || (match S[j]? with
   | some (xj, rj) => (X i).isNone && (((X j).isNone && indep xi xj) || (e && (isCalls xj && (apartA xi xj && rsT rj (X j)))))
   | none => false)
  | none => false) && chkL ds S X o (listed.setIfInBounds i true)
def seqG (P : Program) (S : List (GI × Option RS)) (X : Nat → Option XSpec) (R : Fr → St → Prop) : List (Bool × Nat) → Fr → St → Prop
 | [], fr, st => R fr st
 | (e, i) :: o, fr, st => match S[i]? with
  | none => False
  | some (x, rs) => match e with
   | true => match early x fr st with
    | some (d, a, b) => match okAll S X b with
     | true => seqG P S X R o (put1 fr d a) st
     | false => False
    | none => False
   | false => stepX P (X i) x rs fr st fun f s => seqG P S X R o f s
theorem okAll_at {S : List (GI × Option RS)} {X : Nat → Option XSpec} {b : Option Nat} (h : okAll S X b = true) {j : Nat} {xj : GI} {rj : Option RS} (hj : S[j]? = some (xj, rj)) (hc : isCalls xj = true) (hr : rsT rj (X j) = true) : okC rj (X j) b = true := by
 cases b with
 | none =>
  unfold okC
  unfold rsT at hr
  split
  ·rfl
  ·rename_i hX
   rw [hX] at hr
   split
   ·rfl
   ·rfl
   ·simp only at hr
    exact hr
 | some id =>
  have h2 := List.all_eq_true.1 h j (by have := (List.getElem?_eq_some_iff.1 hj).1; simpa using this)
  rw [hj] at h2
  simp only [hc] at h2
  simpa using h2
theorem anyB_of_seqG {P : Program} {ops : Array Oper} {S : List (GI × Option RS)} {X : Nat → Option XSpec} {R : Fr → St → Prop} : ∀ (o : List (Bool × Nat)) (n : Nat) (listed : Array Bool) (fr : Fr) (st : St), o.length ≤ n → ClosedL ops listed → chkL (depsOf ops) S X o listed = true → seqG P S X R o fr st → anyB P ops S X R n listed fr st
 | [], n, listed, fr, st, _, _, hc, h => by
  have he : Region.ready .any ops listed = [] := List.eq_nil_iff_forall_not_mem.2 fun j hj => by
   have := mem_rdy.2 hj
   unfold chkL at hc
   rw [List.isEmpty_iff.1 hc] at this
   cases this
  cases n with
  | zero => exact ⟨he, h⟩
  | succ n => exact ⟨fun _ => h, fun j hj => by rw [he] at hj; cases hj⟩
 | (e, i) :: o, 0, _, _, _, hn, _, _, _ => by simp at hn
 | (e, i) :: o, n + 1, listed, fr, st, hn, hcl, hc, h => by
  unfold chkL at hc
  simp only [Bool.and_eq_true] at hc
  obtain ⟨⟨hr, hS0⟩, hrest⟩ := hc
  have hir := mem_rdy.1 (by simpa using hr : i ∈ rdy (depsOf ops) listed)
  have hz : (depsOf ops).length = ops.size := by simp [depsOf]
  unfold seqG at h
  cases hS : S[i]? with
  | none => rw [hS] at h; exact h.elim
  | some y =>
   obtain ⟨xi, ri⟩ := y
   rw [hS] at h hS0
   simp only [Bool.and_eq_true] at h hS0
   obtain ⟨hXe, hall⟩ := hS0
   have hcond : ∀ j xj rj oj, S[j]? = some (xj, rj) → ops[j]? = some oj → j ≠ i → listed.getD j true = false → depN ops ops.size j i = false → X i = none ∧ ((X j = none ∧ indep xi xj = true) ∨ (e = true ∧ isCalls xj = true ∧ apartA xi xj = true ∧ rsT rj (X j) = true)) := fun j xj rj oj hSj hoj hji hun hno => by
    have hj : j < (depsOf ops).length := by
     have := (Array.getElem?_eq_some_iff.1 hoj).1
     omega
    have h3 := List.all_eq_true.1 hall j (by simpa using hj)
    rw [hSj, depB_eq, hz] at h3
    simp only [Bool.or_eq_true] at h3
    rcases h3 with ((h3 | h3) | h3) | h3
    ·exact absurd (Nat.eq_of_beq_eq_true h3) hji
    ·rw [hun] at h3; cases h3
    ·rw [hno] at h3; cases h3
    ·simp only [Bool.and_eq_true, Bool.or_eq_true] at h3
     exact ⟨by simpa using h3.1, h3.2.imp (fun k => ⟨by simpa using k.1, k.2⟩) (fun k => ⟨k.1, k.2.1, k.2.2.1, k.2.2.2⟩)⟩
   have hn' : o.length ≤ n := by simpa using hn
   cases e with
   | true =>
    simp only at h
    have hXi : X i = none := by simpa using hXe
    cases he : early xi fr st with
    | none => rw [he] at h; exact h.elim
    | some q =>
     obtain ⟨d, a, b⟩ := q
     rw [he] at h
     simp only at h
     cases hok : okAll S X b with
     | false => rw [hok] at h; exact h.elim
     | true =>
      rw [hok] at h
      refine anyB_early hS hXi n listed fr st hcl (fun j xj rj oj hSj hoj hji hun hno => ?_) hir he (anyB_of_seqG o n _ _ st hn' (hcl.set hir) hrest h)
      rcases (hcond j xj rj oj hSj hoj hji hun hno).2 with k | ⟨_, k1, k2, k3⟩
      ·exact .inl k
      ·refine .inr ?_
       unfold callOk
       rw [k1, k2, okAll_at hok hSj k1 k3]
       rfl
   | false =>
    simp only at h
    cases hXi : X i with
    | none =>
     rw [hXi] at h
     obtain ⟨fr', st', p, hg, hp, h3⟩ := stepX_none h
     refine anyB_first hS hXi n listed fr fr' st st' p hcl (fun j xj rj oj hSj hoj hji hun hno => ?_) hir hg hp (anyB_of_seqG o n _ fr' st' hn' (hcl.set hir) hrest h3)
     rcases (hcond j xj rj oj hSj hoj hji hun hno).2 with k | ⟨k0, _⟩
     ·exact k.2
     ·cases k0
    | some sp =>
     refine ⟨fun h0 => (by rw [h0] at hir; cases hir), fun j hj => ?_⟩
     by_cases hji : j = i
     ·subst hji
      exact ⟨xi, ri, hS, stepX_imp (fun f s h => anyB_of_seqG o n _ f s hn' (hcl.set hir) hrest h) h⟩
     ·exfalso
      obtain ⟨hjun, oj, hoj, hal⟩ := mem_ready.1 hj
      have hnot := depN_false hcl (mem_ready.1 hir).1 ops.size j oj hoj hal
      cases hSj : S[j]? with
      | none =>
       have hj2 : j < (depsOf ops).length := by
        have := (Array.getElem?_eq_some_iff.1 hoj).1
        omega
       have h3 := List.all_eq_true.1 hall j (by simpa using hj2)
       rw [hSj, depB_eq, hz, hjun, hnot] at h3
       have hb : Nat.beq j i = false := nbeq_ne hji
       rw [hb] at h3
       cases h3
      | some y =>
       have := (hcond j y.1 y.2 oj hSj hoj hji hjun hnot).1
       rw [hXi] at this
       cases this
theorem AK.regaL {P : Program} {E : Env} {Q : Exit → Fr → St → Prop} {k : List AItem} {fr : Fr} {st : St} (hm : P.follows .mixedOrders = true) {l : List GI} {ds : List (List Nat)} (o : List (Bool × Nat)) (rs : List RS) (X : Nat → Option XSpec) {κ : Type} (K : κ → Prop) (f0 : κ → Fr) (s0 : κ → St)
  (hn : Nat.ble o.length ds.length = true) (hck : chkL ds (mkS l rs) X o (Array.replicate ds.length false) = true) (hA : seqG P (mkS l rs) X (fun f s => ∃ i, K i ∧ Weak f s (f0 i) (s0 i)) o fr st) (h : ∀ i, K i → AK P E Q k (f0 i) (s0 i)) : AK P E Q (.c (.rega l ds) :: k) fr st := by
 intro hd mu c G ac w hc _ hC
 cases c with
 | region id ops dr =>
  simp only [codeAC] at hc
  split at hc
  ·rename_i l' hl
   split at hc
   ·split at hc <;> cases hc
   ·split at hc
    ·cases hc
     refine wp_region_any hm ?_
     have hz : (depsOf ops).length = ops.size := by simp [depsOf]
     refine wpAny_of_anyB (mkS_map _ _) (at_of hl) hd (fun f s G' a' w' hR hc => ?_) _ _ fr st G ac _ (hC.same ?_) (anyB_of_seqG o _ _ _ _ (by rw [← hz]; exact Nat.le_of_ble_eq_true hn) (fun j o _ hj => by simp [Array.getD_eq_getD_getElem?, Array.getElem?_replicate] at hj; split at hj <;> simp at hj) (by rw [← hz]; exact hck) hA)
     ·obtain ⟨i, hi, hR⟩ := hR
      obtain ⟨G2, hC2⟩ := hR E G' a' w' hc
      exact ⟨G2, f0 i, s0 i, hC2, h i hi⟩
     ·exact (Below.refl w.heap.size w).drew
    ·cases hc
  ·cases hc
 | cond x t e => simp only [codeAC] at hc; split at hc <;> cases hc
 | seq x y => simp only [codeAC] at hc; split at hc <;> cases hc
 | block id b => simp only [codeAC] at hc; split at hc <;> cases hc
 | loop b => simp only [codeAC] at hc; split at hc <;> cases hc
 | _ => cases hc
theorem same_first {a b : V} : (!decide (a.kind = b.kind) || (a.b != b.b) || !decide (a.n = b.n) || !decide (a.s = b.s) || !decide (((rowsV a.l).length : Int) = (rowsV b.l).length) || !decide (((rowsM a.m).length : Int) = (rowsM b.m).length)) = true → a ≠ b := by
 rintro h rfl
 simp at h
theorem same_rest {a b : V} (h : (!decide (a.kind = b.kind) || (a.b != b.b) || !decide (a.n = b.n) || !decide (a.s = b.s) || !decide (((rowsV a.l).length : Int) = (rowsV b.l).length) || !decide (((rowsM a.m).length : Int) = (rowsM b.m).length)) = false) :
  a.kind = b.kind ∧ a.b = b.b ∧ a.n = b.n ∧ a.s = b.s ∧ a.l.length = b.l.length ∧ a.m.length = b.m.length := by
 simp only [rowsV_len, rowsM_len, Bool.or_eq_false_iff, Bool.not_eq_false', decide_eq_true_eq, bne_eq_false_iff_eq] at h
 obtain ⟨⟨⟨⟨⟨h1, h2⟩, h3⟩, h4⟩, h5⟩, h6⟩ := h
 exact ⟨h1, h2, h3, h4, by omega, by omega⟩
theorem same_no {a b : V} (h : a ≠ b) : AV.bool false = .bool (a.sameB b) := by rw [V.sameB_false.2 h]
theorem take_more {α : Type} {l m : List α} {k : Nat} {x y : α} (h : l.take k = m.take k) (hx : l[k]? = some x) (hy : m[k]? = some y) (e : x = y) : l.take (k + 1) = m.take (k + 1) := by rw [take_snoc hx, take_snoc hy, h, e]
set_option maxRecDepth 4000 in
theorem refSame_a (n : Nat) : ∀ a b : V, a.size ≤ n → a.size ≤ 2000000000000 → AC Tryz.prog 35 [(vA (a)), (vA (b))] (.bool (a.sameB b)) := by
 induction n with
 | zero => intro v _ h; have := v.size_pos; omega
 | succ n ih =>
  intro a b hn hsz
  have hve := a.size_eq
  have hll := len_le_sizeL a.l
  have hlm := len_le_sizeM a.m
  refine kE Tryz.func35 a_ref01_Same_ok a_ref01_Same_cb fun E hE => ?_
  refine kW ?_
  refine kQ [] ?_
  refine kC (fun hb => ?_) fun hb => ?_
  ·refine kW ?_
   refine AK.ret ⟨_, rfl, ?_⟩
   exact same_no (same_first hb)
  obtain ⟨e1, e2, e3, e4, e5, e6⟩ := same_rest hb
  clear hb
  refine kW ?_
  refine AK.loopI (fun k : Nat => (frOf [(2, .ptr 2 0), (3, .ptr 3 0), (5, .int .i64 k)], ⟨boxOf [(2, (vC (a)), false), (3, (vC (b)), false)], fun _ => 0⟩)) (fun k => k ≤ a.l.length ∧ a.l.take k = b.l.take k) (fun k => a.l.length - k) 0 ⟨by omega, rfl⟩ (Weak.intro ⟨kI, kI, kI, trivial⟩ ⟨kJ, kJ, trivial⟩ rfl rfl) fun k ⟨hk, hr⟩ => ?_
  refine kW ?_
  refine kC (fun hb => ?_) fun hb => ?_
  ·have hlt : k < a.l.length := by simpa [rowsV_len] using hb
   obtain ⟨x, hg⟩ : ∃ x, a.l[k]? = some x := ⟨_, List.getElem?_eq_getElem hlt⟩
   obtain ⟨y, hy⟩ : ∃ x, b.l[k]? = some x := ⟨_, List.getElem?_eq_getElem (by omega)⟩
   have hx := sizeL_take hg
   have hx2 := sizeL_take_le a.l (k + 1)
   refine kW ?_
   refine kP [.c (vC (x)), .c (vC (y)), .v (.bool (x.sameB y))] ?_ ?_
   ·((repeat' apply And.intro) <;> first | exact kD | (intro hgd; refine ⟨?_, kG⟩; (repeat' apply And.intro) <;> first | exact kD | skip) | skip)
    ·exact rowsV_at hg
    ·exact rowsV_at hy
    ·exact ih x y (by omega) (by omega)
   refine kC (fun hb => ?_) fun hb => ?_
   ·have he : x ≠ y := V.sameB_false.1 (by simpa using hb)
    refine kW ?_
    refine AK.ret ⟨_, rfl, ?_⟩
    exact same_no (by rintro rfl; rw [hg] at hy; exact he (Option.some.inj hy))
   ·have he : x = y := V.sameB_true.1 (by simpa using hb)
    refine kW ?_
    exact AK.lp ⟨k + 1, ⟨by omega, take_more hr hg hy he⟩, Weak.intro ⟨kI, kI, kU, trivial⟩ ⟨kJ, kJ, trivial⟩ rfl rfl, by omega⟩
  ·have hlt : k = a.l.length := by have : a.l.length ≤ k := by simpa [rowsV_len] using hb
                                   omega
   subst hlt
   have e7 : a.l = b.l := by rw [List.take_length, e5, List.take_length] at hr; exact hr
   clear hr
   refine AK.exit rfl ?_
   refine kW ?_
   refine AK.loopI (fun k : Nat => (frOf [(2, .ptr 2 0), (3, .ptr 3 0), (6, .int .i64 k)], ⟨boxOf [(2, (vC (a)), false), (3, (vC (b)), false)], fun _ => 0⟩)) (fun k => k ≤ a.m.length ∧ a.m.take k = b.m.take k) (fun k => a.m.length - k) 0 ⟨by omega, rfl⟩ (Weak.intro ⟨kI, kI, kI, trivial⟩ ⟨kJ, kJ, trivial⟩ rfl rfl) fun k ⟨hk, hr⟩ => ?_
   refine kW ?_
   refine kC (fun hb => ?_) fun hb => ?_
   ·have hlt : k < a.m.length := by simpa [rowsM_len] using hb
    obtain ⟨⟨p, x⟩, hg⟩ : ∃ x, a.m[k]? = some x := ⟨_, List.getElem?_eq_getElem hlt⟩
    obtain ⟨⟨q, y⟩, hy⟩ : ∃ x, b.m[k]? = some x := ⟨_, List.getElem?_eq_getElem (by omega)⟩
    have hx := sizeM_take hg
    have hx2 := sizeM_take_le a.m (k + 1)
    refine kW ?_
    refine kP [.c (.str p :: (vC (x))), .c (.str q :: (vC (y))), .c (.str p :: (vC (x))), .c (.str q :: (vC (y))), .v (.bool (x.sameB y))] ?_ ?_
    ·((repeat' apply And.intro) <;> first | exact kD | (intro hgd; refine ⟨?_, kG⟩; (repeat' apply And.intro) <;> first | exact kD | skip) | skip)
     ·exact rowsM_at hg
     ·exact rowsM_at hy
     ·exact rowsM_at hg
     ·exact rowsM_at hy
     ·exact ih x y (by omega) (by omega)
    refine kC (fun hb => ?_) fun hb => ?_
    ·have he : ¬ (p = q ∧ x = y) := by
      rintro ⟨rfl, rfl⟩
      rw [V.sameB_true.2 rfl] at hb
      simp at hb
     refine kW ?_
     refine AK.ret ⟨_, rfl, ?_⟩
     exact same_no (by rintro rfl; rw [hg] at hy; cases hy; exact he ⟨rfl, rfl⟩)
    ·have he : p = q ∧ x = y := by
      simp only [Bool.or_eq_false_iff, Bool.not_eq_false', decide_eq_true_eq] at hb
      exact ⟨hb.1, V.sameB_true.1 hb.2⟩
     refine kW ?_
     exact AK.lp ⟨k + 1, ⟨by omega, take_more hr hg hy (by rw [he.1, he.2])⟩, Weak.intro ⟨kI, kI, kU, trivial⟩ ⟨kJ, kJ, trivial⟩ rfl rfl, by omega⟩
   ·have hlt : k = a.m.length := by have : a.m.length ≤ k := by simpa [rowsM_len] using hb
                                    omega
    subst hlt
    have e8 : a.m = b.m := by rw [List.take_length, e6, List.take_length] at hr; exact hr
    refine AK.exit rfl ?_
    refine kW ?_
    refine AK.ret ⟨_, rfl, ?_⟩
    exact congrArg AV.bool (V.sameB_true.2 (V.ext_iff'.2 ⟨e1, e2, e3, e4, e7, e8⟩)).symm
end Go.Proofs.YtgidajjjpeboeaaGreatDoor
namespace Go.Proofs.YtgidajjjpeboeaaGreatDoor
set_option maxRecDepth 100000
def b_law16_DoD : ACode :=
 .seq (gQ [gP 5 2, ⟨gO, .mov 6 (.k (.bool false))⟩]) (.seq (.seq (gQ [gF 14 0 5, gL 15 14]) (.block 0 (.seq (gQ [gU 17 .eql 15 0, gM 16 17]) (.cond (.s 16) (.seq (.rega [gM 18 0, gF 19 1 5, gA 20 3 19, gF 21 4 5, gA 22 6 21, ⟨gO, .calls (some 23) (.k (.fn 12 [])) [.s 18, .s 20, .s 22]⟩, gM 24 1, gF 25 1 5, gA 26 3 25, gF 27 4 5, gA 28 6 27, ⟨gO, .calls (some 29) (.k (.fn 29 [])) [.s 24, .s 26, .s 28]⟩, gV 30 .eql 23 29, gM 6 30] [[], [], [1], [], [3], [0, 2, 4], [], [], [7], [], [9], [6, 8, 10, 5], [5, 11], [12, 11, 0, 1, 2, 3, 4, 5, 6, 7, 8, 9, 10, 11, 12]]) .ret) (.seq (gQ [gU 32 .eql 15 1, gM 31 32]) (.cond (.s 31) (.seq (gQ [gF 33 10 5, gL 34 33, gM 7 34]) (.seq (.seq (gQ [gM 35 7, gU 36 .rem 35 2, gU 37 .eql 36 0]) (.cond (.s 37) (.rega [gM 39 1, ⟨gO, .calls (some 40) (.k (.fn 30 [])) [.s 39]⟩, gF 41 1 5, gA 42 3 41, ⟨gO, .calls (some 43) (.k (.fn 31 [])) [.s 40, .s 42]⟩, gM 38 43, gX 44 0 38, gX 45 1 38, gX 46 2 38, gM 7 45] [[], [0], [], [2], [1, 3, 1], [4], [5], [5], [5], [7, 4, 0, 1, 2, 3, 4, 5, 6, 7]]) .skip)) (.seq (.rega [gM 47 0, gF 48 1 5, gA 49 3 48, gM 50 7, gF 51 4 5, gA 52 6 51, ⟨gO, .calls (some 53) (.k (.fn 13 [])) [.s 47, .s 49, .s 50, .s 52]⟩, gM 54 1, gF 55 1 5, gA 56 3 55, gM 57 7, gF 58 4 5, gA 59 6 58, ⟨gO, .calls (some 60) (.k (.fn 32 [])) [.s 54, .s 56, .s 57, .s 59]⟩, gV 61 .eql 53 60, gM 6 61] [[], [], [1], [], [], [4], [0, 2, 3, 5], [], [], [8], [], [], [11], [7, 9, 10, 12, 6], [6, 13], [14, 13, 0, 1, 2, 3, 4, 5, 6, 7, 8, 9, 10, 11, 12, 13, 14]]) .ret))) (.seq (gQ [gU 63 .eql 15 2, gM 62 63]) (.cond (.s 62) (.seq (.rega [gM 64 0, gF 65 1 5, gA 66 3 65, ⟨gO, .calls (some 67) (.k (.fn 14 [])) [.s 64, .s 66]⟩, gM 68 1, gF 69 1 5, gA 70 3 69, ⟨gO, .calls (some 71) (.k (.fn 33 [])) [.s 68, .s 70]⟩, gV 72 .eql 67 71, gM 6 72] [[], [], [1], [0, 2], [], [], [5], [4, 6, 3], [3, 7], [8, 7, 0, 1, 2, 3, 4, 5, 6, 7, 8]]) .ret) (.seq (gQ [gU 74 .eql 15 3, gM 73 74]) (.cond (.s 73) (.seq (.rega [gM 75 0, gF 76 1 5, gA 77 3 76, gF 78 4 5, gA 79 6 78, ⟨gO, .calls (some 80) (.k (.fn 18 [])) [.s 75, .s 77, .s 79]⟩, gM 81 1, gF 82 1 5, gA 83 3 82, gF 84 4 5, gA 85 6 84, ⟨gO, .calls (some 86) (.k (.fn 34 [])) [.s 81, .s 83, .s 85]⟩, gV 87 .eql 80 86, gM 6 87] [[], [], [1], [], [3], [0, 2, 4], [], [], [7], [], [9], [6, 8, 10, 5], [5, 11], [12, 11, 0, 1, 2, 3, 4, 5, 6, 7, 8, 9, 10, 11, 12]]) .ret) (.seq (gQ [gU 89 .eql 15 4, gM 88 89]) (.cond (.s 88) (.seq (gQ [gM 91 0, gF 92 1 5, gA 93 3 92, ⟨gO, .calls (some 94) (.k (.fn 28 [])) [.s 91, .s 93]⟩, gM 90 94, gX 95 0 90, gX 96 1 90, gX 97 2 90, ⟨gO, .alloc 8 gZ⟩, gT 6 8 95, gM 9 96, gM 10 97]) (.seq (gQ [gM 99 1, gF 100 1 5, gA 101 3 100, ⟨gO, .calls (some 102) (.k (.fn 31 [])) [.s 99, .s 101]⟩, gM 98 102, gX 103 0 98, gX 104 1 98, gX 105 2 98, ⟨gO, .alloc 11 gZ⟩, gT 6 11 103, gM 12 104, gM 13 105]) (.seq (gQ [gM 106 10, gM 107 13, gV 108 .eql 106 107, gM 109 108, gN 109 true 110 9, gN 109 true 111 12, ⟨some (109, true), .bin 112 .eql false (.s 110) (.s 111)⟩, ⟨gO, .pick 113 (.s 109) (.s 112) (.k (.bool false))⟩, gM 114 113, ⟨some (114, true), .ld 115 6 true (.s 8)⟩, ⟨some (114, true), .ld 116 6 true (.s 11)⟩, ⟨some (114, true), .call (some 117) (.k (.fn 35 [])) [.s 115, .s 116]⟩, ⟨gO, .pick 118 (.s 114) (.s 117) (.k (.bool false))⟩, gM 6 118]) .ret))) (.seq (gQ [gU 120 .eql 15 5, gM 119 120]) (.cond (.s 119) (.seq (.regs [gM 121 0, gF 122 10 5, gL 123 122, ⟨gO, .bsl 124 1 1 [.int .i64 0] [(0, 1, .s 123)]⟩, ⟨gO, .calls (some 125) (.k (.fn 36 [])) [.s 121, .s 124]⟩]) (.reg [gM 126 1, gM 127 1, gF 128 0 127, gF 129 2 128, gL 130 129, gF 131 10 5, gL 132 131, ⟨gO, .bsl 133 1 1 [.int .i64 0] [(0, 1, .s 132)]⟩, ⟨gO, .app 134 1 8 (.s 130) (.s 133)⟩, gF 135 0 126, gF 136 2 135, gT 1 136 134])) (.seq (gQ [gU 138 .eql 15 6, gM 137 138]) (.cond (.s 137) (.seq (gQ [gM 139 0, gF 140 10 5, gL 141 140, ⟨gO, .calls (some 142) (.k (.fn 25 [])) [.s 139, .s 141]⟩]) (.reg [gM 143 1, gF 144 10 5, gL 145 144, gF 146 0 143, gF 147 3 146, gT 1 147 145])) (.seq (gQ [gU 149 .eql 15 7, gM 148 149]) (.cond (.s 148) (.seq (gQ [gM 150 0, ⟨gO, .calls (some 151) (.k (.fn 37 [])) [.s 150]⟩]) (.reg [gM 152 1, gM 153 1, gM 154 1, gF 155 0 152, gF 156 4 155, ⟨gO, .st 1 (.s 156) (.k (.bool false))⟩, gF 157 0 153, gF 158 3 157, ⟨gO, .st 1 (.s 158) (.k (.int .i64 (-1)))⟩, gF 159 0 154, gF 160 2 159, ⟨gO, .st 1 (.s 160) (.k (.lst .nil 1 []))⟩])) .skip)))))))))))))))))) (.seq (gQ [⟨gO, .mov 6 (.k (.bool true))⟩]) .ret))
def a_law16_DoD : AFn := ⟨3, 161, b_law16_DoD, [.tmp 6]⟩
theorem a_law16_DoD_ok : fnAF Tryz.prog [2000036, 2000025, 2000037, 2000050, 2000028, 2000012, 2000013, 2000014, 2000018, 2000011, 2000008, 2000030, 2000031, 2000029, 2000032, 2000033, 2000034, 2000010, 2000009, 5000018] Tryz.f9 = some a_law16_DoD := by kernel_rfl
theorem a_law16_DoD_cb : callable Tryz.prog 9 = true := by kernel_rfl
end Go.Proofs.YtgidajjjpeboeaaGreatDoor
