/-
  The abstract walk: a region that draws its order; a function's code as instructions.
-/
import Derived.Test.YtpcddcfpbohogaaDoorAC
namespace Go.Proofs.YtpcddcfpbohogaaDoor
set_option linter.unusedSimpArgs false
set_option linter.unusedVariables false
open Go.RowKit

section
variable {P : Program} {mu : List Nat}
theorem astep_fs {i : AI} {rs : Option RS} {fr f : Fr} {st s : St} {p : Prop} (h : astep P i rs fr st = some (f, s, p)) : ∃ v, f = updO fr i.dst v := by
  cases i
  all_goals
    simp only [astep] at h
    (repeat' (split at h)) <;> first
      | (cases h; exact ⟨some _, rfl⟩)
      | (cases h; exact ⟨none, rfl⟩)
      | (cases h; done)
      | skip
def apartA (x y : GI) : Bool :=
  (match x.i.dst with
   | some d => !(y.looks.contains d) && !(dstEq y.i.dst (some d))
   | none => true) &&
  (match y.i.dst with
   | some d => !(x.looks.contains d)
   | none => true)
def indep (x y : GI) : Bool := apartA x y && okPair x.i.cl y.i.cl
theorem dstEq_self (x : Option Nat) : dstEq x x = true := by
  cases x with
  | none => rfl
  | some a => exact Nat.beq_refl a
theorem apartA_spec {x y : GI} (h : apartA x y = true) : (∀ d, x.i.dst = some d → d ∉ y.looks) ∧ (∀ d, x.i.dst = some d → y.i.dst ≠ some d) ∧ ∀ d, y.i.dst = some d → d ∉ x.looks := by
  unfold apartA at h
  rw [Bool.and_eq_true] at h
  refine ⟨fun d hd => ?_, fun d hd e => ?_, fun d hd => ?_⟩
  · have h1 := h.1
    rw [hd] at h1
    simp only [Bool.and_eq_true, Bool.not_eq_true'] at h1
    simpa using h1.1
  · have h1 := h.1
    rw [hd, e] at h1
    simp only [Bool.and_eq_true, Bool.not_eq_true', dstEq_self] at h1
    cases h1.2
  · have h1 := h.2
    rw [hd] at h1
    simpa using h1
theorem gstep_fs {x : GI} {rs : Option RS} {fr f : Fr} {st s : St} {p : Prop} (h : gstep P x rs fr st = some (f, s, p)) : ∃ v, f = updO fr x.i.dst v := by
  unfold gstep at h
  split at h
  · exact astep_fs h
  · split at h
    · rename_i d hst hd
      split at h
      · split at h
        · split at h
          · cases h
            exact ⟨some _, by rw [hd]; rfl⟩
          · cases h
        · cases h
      · cases h
    · cases h
  · cases h
theorem gstep_updO (x : GI) (rs : Option RS) (fr : Fr) (st : St) (d : Option Nat) (v : Option AV) (hr : ∀ e, d = some e → e ∉ x.looks) (hd : ∀ e, d = some e → x.i.dst ≠ some e) : gstep P x rs (updO fr d v) st = (gstep P x rs fr st).map fun r => (updO r.1 d v, r.2) := by
  cases d with
  | none =>
    cases h : gstep P x rs fr st with
    | none => simp only [updO, h]; rfl
    | some r => simp only [updO, h]; rfl
  | some d => exact gstep_fc x rs fr st v (hr d rfl) (hd d rfl)
theorem diamond {x y : GI} (hind : indep x y = true) {rx ry : Option RS} {fr f1 f2 : Fr} {st s1 s2 : St} {p q : Prop} (h1 : gstep P x rx fr st = some (f1, s1, p)) (h2 : gstep P y ry f1 s1 = some (f2, s2, q)) :
    ∃ f1' s1', gstep P y ry fr st = some (f1', s1', q) ∧ gstep P x rx f1' s1' = some (f2, s2, p) := by
  unfold indep at hind
  rw [Bool.and_eq_true] at hind
  obtain ⟨ha, hok⟩ := hind
  obtain ⟨a1, a2, a3⟩ := apartA_spec ha
  obtain ⟨vx, e1⟩ := gstep_fs h1
  subst e1
  rw [gstep_updO y ry fr s1 x.i.dst vx a1 a2] at h2
  cases hy : gstep P y ry fr s1 with
  | none => rw [hy] at h2; cases h2
  | some r =>
    obtain ⟨g, s2', q'⟩ := r
    rw [hy] at h2
    simp only [Option.map_some, Option.some.injEq, Prod.mk.injEq] at h2
    obtain ⟨e2, e3, e4⟩ := h2
    subst e2 e3 e4
    obtain ⟨s1', h3, h4⟩ := g_swap hok a2 h1 hy
    obtain ⟨vy, e5⟩ := gstep_fs hy
    subst e5
    refine ⟨_, s1', h3, ?_⟩
    rw [gstep_updO x rx fr s1' y.i.dst vy a3 (fun e he e' => a2 e e' he), h4]
    simp only [Option.map_some]
    rw [updO_comm fr vx vy a2]

/-- whatever order is picked from here on -/
def anyA (P : Program) (ops : Array Oper) (S : List (GI × Option RS)) (R : Fr → St → Prop) : Nat → Array Bool → Fr → St → Prop
  | 0, listed, fr, st => Region.ready .any ops listed = [] ∧ R fr st
  | n + 1, listed, fr, st => (Region.ready .any ops listed = [] → R fr st) ∧ ∀ i ∈ Region.ready .any ops listed, ∃ x rs fr' st' p, S[i]? = some (x, rs) ∧ gstep P x rs fr st = some (fr', st', p) ∧ p ∧ anyA P ops S R n (listed.setIfInBounds i true) fr' st'
/-- operation j comes behind operation i, by others between -/
def depN (ops : Array Oper) : Nat → Nat → Nat → Bool
  | 0, _, _ => false
  | n + 1, j, i => match ops[j]? with
    | some o => o.after.any fun e => Region.binds .any e && (Nat.beq e.on i || depN ops n e.on i)
    | none => false
/-- what has come up has come up behind what it waits for -/
def ClosedL (ops : Array Oper) (listed : Array Bool) : Prop := ∀ j o, ops[j]? = some o → listed.getD j false = true → ∀ e ∈ o.after, Region.binds .any e = true → listed.getD e.on false = true
theorem depN_false {ops : Array Oper} {listed : Array Bool} {i : Nat} (hc : ClosedL ops listed) (hi : listed.getD i true = false) : ∀ (n j : Nat) o, ops[j]? = some o → (∀ e ∈ o.after, Region.binds .any e = true → listed.getD e.on false = true) → depN ops n j i = false
  | 0, _, _, _, _ => rfl
  | n + 1, j, o, ho, hall => by
    unfold depN
    rw [ho]
    simp only
    cases hq : (o.after.any fun e => Region.binds .any e && (Nat.beq e.on i || depN ops n e.on i)) with
    | false => rfl
    | true =>
      rw [Array.any_eq_true'] at hq
      obtain ⟨e, he, h4⟩ := hq
      rw [Bool.and_eq_true, Bool.or_eq_true] at h4
      have hl := hall e he h4.1
      rcases h4.2 with h5 | h5
      · have := Nat.eq_of_beq_eq_true h5
        rw [this] at hl
        rcases Nat.lt_or_ge i listed.size with h' | h'
        · simp [h'] at hi hl; rw [hi] at hl; cases hl
        · simp [Array.getElem?_eq_none h'] at hl
      · cases ho2 : ops[e.on]? with
        | none =>
          cases n with
          | zero => cases h5
          | succ n => unfold depN at h5; rw [ho2] at h5; cases h5
        | some o2 =>
          rw [depN_false hc hi n e.on o2 ho2 (hc e.on o2 ho2 hl)] at h5
          cases h5
theorem ClosedL.set {ops : Array Oper} {listed : Array Bool} (hc : ClosedL ops listed) {j : Nat} (hj : j ∈ Region.ready .any ops listed) : ClosedL ops (listed.setIfInBounds j true) := by
  intro k o ho hk e he hb
  obtain ⟨_, oj, hoj, hall⟩ := mem_ready.1 hj
  by_cases hkj : k = j
  · subst hkj
    rw [ho] at hoj
    cases hoj
    exact getD_set_true (hall e he hb)
  · rw [getD_set_ne false (Ne.symm hkj)] at hk
    exact getD_set_true (hc k o ho hk e he hb)
theorem anyA_first {ops : Array Oper} {S : List (GI × Option RS)} {R : Fr → St → Prop} {i : Nat} {xi : GI} {ri : Option RS} (hi : S[i]? = some (xi, ri)) :
    ∀ (fuel : Nat) (listed : Array Bool) (fr f1 : Fr) (st s1 : St) (p : Prop), ClosedL ops listed → (∀ j xj rj oj, S[j]? = some (xj, rj) → ops[j]? = some oj → j ≠ i → listed.getD j true = false → depN ops ops.size j i = false → indep xi xj = true) →
      i ∈ Region.ready .any ops listed → gstep P xi ri fr st = some (f1, s1, p) → p → anyA P ops S R fuel (listed.setIfInBounds i true) f1 s1 → anyA P ops S R (fuel + 1) listed fr st := by
  intro fuel
  induction fuel with
  | zero =>
    intro listed fr f1 st s1 p _ _ hr hs hp H
    refine ⟨fun h => (by rw [h] at hr; cases hr), fun j hj => ?_⟩
    by_cases hji : j = i
    · subst hji; exact ⟨xi, ri, f1, s1, p, hi, hs, hp, H⟩
    · have := ready_mono hj hji
      rw [H.1] at this
      cases this
  | succ fuel ih =>
    intro listed fr f1 st s1 p hcl hfree hr hs hp H
    refine ⟨fun h => (by rw [h] at hr; cases hr), fun j hj => ?_⟩
    by_cases hji : j = i
    · subst hji; exact ⟨xi, ri, f1, s1, p, hi, hs, hp, H⟩
    · obtain ⟨xj, rj, f2, s2, q, hSj, hsj, hq, h3⟩ := H.2 j (ready_mono hj hji)
      obtain ⟨hjun, oj, hoj, hall⟩ := mem_ready.1 hj
      have hnot := depN_false hcl (mem_ready.1 hr).1 ops.size j oj hoj hall
      have hind := hfree j xj rj oj hSj hoj hji hjun hnot
      obtain ⟨f1', s1', k1, k2⟩ := diamond hind hs hsj
      refine ⟨xj, rj, f1', s1', q, hSj, k1, hq, ih (listed.setIfInBounds j true) f1' f2 s1' s2 p (hcl.set hj) (fun k xk rk ok hSk hok hki hun hno => ?_) (ready_mono hr (Ne.symm hji)) k2 hp ?_⟩
      · refine hfree k xk rk ok hSk hok hki ?_ hno
        by_cases hjk : j = k
        · subst hjk; exact hjun
        · rw [getD_set_ne true hjk] at hun; exact hun
      · rw [Array.setIfInBounds_comm _ _ hji]
        exact h3
/-- an operation may be taken now: each that has not come up yet waits for it, or is apart from it -/
def freeA (ops : Array Oper) (gl : List GI) (listed : Array Bool) (i : Nat) (xi : GI) : Bool :=
  (List.range ops.size).all fun j => Nat.beq j i || listed.getD j true || (match ops[j]?, gl[j]? with
    | some oj, some xj => (oj.after.any fun e => Region.binds .any e && Nat.beq e.on i) || indep xi xj || depN ops ops.size j i
    | _, _ => false)
def lexA (ops : Array Oper) (gl : List GI) : Nat → Nat → Array Bool → Bool
  | 0, _, listed => (Region.ready .any ops listed).isEmpty
  | n + 1, k, listed => (Region.ready .any ops listed).contains k && (match gl[k]? with | some x => freeA ops gl listed k x | none => false) && lexA ops gl n (k + 1) (listed.setIfInBounds k true)
theorem anyA_lex {ops : Array Oper} {gl : List GI} {S : List (GI × Option RS)} (hS : S.map (·.1) = gl) {fr' : Fr} {st' : St} {R : Fr → St → Prop} (hR : R fr' st') :
    ∀ (l : List (GI × Option RS)) (k : Nat) (listed : Array Bool) (fr : Fr) (st : St) (p : Prop), ClosedL ops listed → (∀ j : Nat, l[j]? = S[k + j]?) → lexA ops gl l.length k listed = true → asteps P l fr st = some (fr', st', p) → p → anyA P ops S R l.length listed fr st
  | [], k, listed, fr, st, p, _, _, hB, hs, _ => by
    cases hs
    exact ⟨by simpa [lexA] using hB, hR⟩
  | (x, rs) :: l, k, listed, fr, st, p, hcl, hl, hB, hs, hp => by
    have h0 : S[k]? = some (x, rs) := by simpa using (hl 0).symm
    have hg : gl[k]? = some x := by rw [← hS, List.getElem?_map, h0]; rfl
    simp only [List.length_cons, lexA, Bool.and_eq_true, hg] at hB
    obtain ⟨⟨hr, hf⟩, hB'⟩ := hB
    unfold asteps at hs
    split at hs
    · rename_i f1 s1 p1 h1
      split at hs
      · rename_i f2 s2 q2 h2
        cases hs
        have hrk : k ∈ Region.ready .any ops listed := by simpa using hr
        refine anyA_first h0 l.length listed fr f1 st s1 p1 hcl (fun j xj rj oj hSj hoj hji hun hno => ?_) hrk h1 hp.1 (anyA_lex hS hR l (k + 1) _ f1 s1 q2 (hcl.set hrk) (fun j => by
          have := hl (j + 1)
          simp only [List.getElem?_cons_succ] at this
          rw [this, show k + (j + 1) = k + 1 + j by omega]) hB' h2 hp.2)
        have hj : j < ops.size := (Array.getElem?_eq_some_iff.1 hoj).1
        have h3 := List.all_eq_true.1 hf j (by simpa using hj)
        have hgj : gl[j]? = some xj := by rw [← hS, List.getElem?_map, hSj]; rfl
        simp only [hoj, hgj, Bool.or_eq_true] at h3
        rcases h3 with (h3 | h3) | (h3 | h3) | h3
        · exact absurd (Nat.eq_of_beq_eq_true h3) hji
        · rw [hun] at h3; cases h3
        · rw [Array.any_eq_true'] at h3
          obtain ⟨e, he, h4⟩ := h3
          rw [Bool.and_eq_true] at h4
          have : depN ops ops.size j k = true := by
            cases hn : ops.size with
            | zero => omega
            | succ n =>
              unfold depN
              rw [hoj]
              simp only
              rw [Array.any_eq_true']
              exact ⟨e, he, by rw [h4.1, h4.2]; rfl⟩
          rw [hno] at this
          cases this
        · exact h3
        · rw [hno] at h3; cases h3
      · cases hs
    · cases hs
theorem wpAny_of_anyA {E : Env} {ops : Array Oper} {gl : List GI} {S : List (GI × Option RS)} (hS : S.map (·.1) = gl) (hat : At P mu ops gl) (hd : dstsLt E.n gl = true) {R : Fr → St → Prop} {Q : Exit → Act → World → Prop} (hQ : ∀ fr st G a w, R fr st → Conc E G fr st a w → Q .normal a w) :
    ∀ (fuel : Nat) (listed : Array Bool) (fr : Fr) (st : St) (G : Gho) (a : Act) (w : World), Conc E G fr st a w → anyA P ops S R fuel listed fr st → wpAny P .any ops Q fuel listed a w
  | 0, listed, fr, st, G, a, w, hc, h => ⟨h.1, hQ _ _ _ _ _ h.2 hc⟩
  | fuel + 1, listed, fr, st, G, a, w, hc, h => by
    refine ⟨fun h0 => hQ _ _ _ _ _ (h.1 h0) hc, fun i hi => ?_⟩
    obtain ⟨x, rs, fr', st', p, hSi, hs, hp, h3⟩ := h.2 i hi
    have hg : gl[i]? = some x := by rw [← hS, List.getElem?_map, hSi]; rfl
    have hil : i < ops.size := by
      rw [← hat.1]
      exact (List.getElem?_eq_some_iff.1 hg).1
    have ho : ops[i]? = some ops[i] := Array.getElem?_eq_getElem hil
    unfold wpOp
    simp only [ho]
    have hg2 := gsim (Q := Q) (K := wpAny P .any ops Q fuel (listed.setIfInBounds i true)) hc hat ho hg hs hp (dstsLt_at hd hg) (fun G' a' w' hc' => wpAny_of_anyA hS hat hd hQ fuel _ fr' st' G' a' w' hc' h3)
    split at hg2
    · rename_i hw; rw [if_pos hw]; exact .inl hg2
    · rename_i hw; rw [if_neg hw]; exact hg2
/-- A REGION, WHETHER IT DRAWS ITS ORDER OR NOT. -/
theorem region_ok {E : Env} {G : Gho} {fr fr' : Fr} {st st' : St} {a : Act} {w : World} {Q : Exit → Act → World → Prop} {ops : Array Oper} {gl : List GI} {draw : Bool} {id : Nat} {rs rs' : List RS} {p : Prop} (hm : P.follows .mixedOrders = true) (hops : opsGI P mu ops 0 ops.toList = some gl)
    (hlex : (!draw || lexA ops gl ops.size 0 (Array.replicate ops.size false)) = true) (hd : dstsLt E.n gl = true) (h : Conc E G fr st a w) (hs : arun P gl rs fr st = some (rs', fr', st', p)) (hp : p) (hQ : ∀ G a w, Conc E G fr' st' a w → Q .normal a w) : (Code.region id ops draw).wp P Q a w := by
  obtain ⟨S, hS, q, hst, hpq⟩ := arun_asteps hs
  have hat := at_of hops
  have hSl : S.length = ops.size := by rw [← hat.1, ← hS, List.length_map]
  cases draw with
  | false =>
    refine wp_region ?_
    have := seq_run (Q := Q) hat hd hQ (l := S) (k := 0) (fun j => by rw [hS, Nat.zero_add]) (by rw [hSl, Nat.zero_add]) hst (hpq hp) h
    rw [hSl] at this
    rwa [List.range_eq_range']
  | true =>
    simp only [Bool.not_true, Bool.false_or] at hlex
    refine wp_region_any hm ?_
    have h2 := anyA_lex (R := fun f s => f = fr' ∧ s = st') hS ⟨rfl, rfl⟩ S 0 (Array.replicate ops.size false) fr st q (fun j o _ hj => by simp [Array.getD_eq_getD_getElem?, Array.getElem?_replicate] at hj; split at hj <;> simp at hj) (fun j => by rw [Nat.zero_add]) (by rw [hSl]; exact hlex) hst (hpq hp)
    rw [hSl] at h2
    refine wpAny_of_anyA hS hat hd (fun f s G' a' w' hR hc => by obtain ⟨rfl, rfl⟩ := hR; exact hQ _ _ _ hc) _ _ fr st G a _ (h.same ?_) h2
    exact (Below.refl w.heap.size w).drew
end

inductive ACode where
  | skip
  | reg (l : List GI)
  | seq (a b : ACode)
  | cond (c : Opd) (t e : ACode)
  | block (id : Nat) (b : ACode)
  | loop (b : ACode)
  | exit (id : Nat)
  | ret
def codeAC (P : Program) (mu : List Nat) : Code → Option ACode
  | .skip => some .skip
  | .region _ ops draw => match opsGI P mu ops 0 ops.toList with
    | some l => match !draw || lexA ops l ops.size 0 (Array.replicate ops.size false) with
      | true => some (.reg l)
      | false => none
    | none => none
  | .seq a b => match codeAC P mu a, codeAC P mu b with
    | some a, some b => some (.seq a b)
    | _, _ => none
  | .cond c t e => match opdOf P 0 c, codeAC P mu t, codeAC P mu e with
    | some c, some t, some e => some (.cond c t e)
    | _, _, _ => none
  | .block id b => match codeAC P mu b with
    | some b => some (.block id b)
    | none => none
  | .loop b => match codeAC P mu b with
    | some b => some (.loop b)
    | none => none
  | .exit id => some (.exit id)
  | .ret => some .ret
  | _ => none
inductive ARes where
  | tmp (t : Nat)
  | cell (t n : Nat) (agg : Bool)
structure AFn where
  np : Nat
  n : Nat
  body : ACode
  res : List ARes
def resOf (P : Program) : List ResultVar → Option (List ARes)
  | [] => some []
  | .tmp t :: l => match resOf P l with
    | some r => some (.tmp t :: r)
    | none => none
  | .cell a t :: l => match P.info? t, resOf P l with
    | some i, some r => if (P.underlying t).isSome then some (.cell a i.size (isAggT P t) :: r) else none
    | _, _ => none
def dstsOk (n : Nat) : ACode → Bool
  | .reg l => dstsLt n l
  | .seq a b => dstsOk n a && dstsOk n b
  | .cond _ a b => dstsOk n a && dstsOk n b
  | .block _ b => dstsOk n b
  | .loop b => dstsOk n b
  | _ => true
def fnAF (P : Program) (mu : List Nat) (f : Func) : Option AFn :=
  match f.body with
  | some c => match codeAC P mu c, resOf P f.results.toList with
    | some b, some r => if dstsOk f.ntmps b && Nat.ble f.params.size f.ntmps && Nat.ble f.ntmps 1000000 then some ⟨f.params.size, f.ntmps, b, r⟩ else none
    | _, _ => none
  | none => none
end Go.Proofs.YtpcddcfpbohogaaDoor
