/-
  The abstract walk: every operation does what its instruction says; a region in the order of the text; instructions apart from each other change places.
-/
import Derived.Test.YtpcddcfpbohogaaDoorAA
import Derived.Orders
namespace Go.Proofs.YtpcddcfpbohogaaDoor
set_option linter.unusedSimpArgs false
set_option linter.unusedVariables false
open Go.RowKit

section
variable {P : Program} {mu : List Nat} {E : Env} {G : Gho} {fr fr' : Fr} {st st' : St} {a : Act} {w : World} {o : Oper} {K : Act → World → Prop} {Q : Exit → Act → World → Prop} {p : Prop} {rs : Option RS} {i : AI} {gs : Bool}

theorem sim (h : Conc E G fr st a w) (hi : opAI P mu gs o = some i) (hs : astep P i rs fr st = some (fr', st', p)) (hp : p) (hn : ∀ d, o.dst = some d → d < E.n) (hk : Then E fr' st' K) : o.wp P a w K Q := by
  have bad : (opAI P mu gs o = none) → o.wp P a w K Q := fun e => by rw [e] at hi; cases hi
  cases ho : o.op with
  | move x => exact sim_mov h (.inl ho) hi hs hp hn hk
  | assign x => exact sim_mov h (.inr ho) hi hs hp hn hk
  | pick c x y => exact sim_pick h ho hi hs hp hn hk
  | alloc t => exact sim_alloc h ho hi hs hn hk
  | box t x => exact sim_box h ho hi hs hn hk
  | build t ps => exact sim_build h ho hi hs hn hk
  | buildSlice t n ps => exact sim_bsl h ho hi hs hn hk
  | load t x => exact sim_ld h ho hi hs hp hn hk
  | store t x y => exact sim_st h ho hi hs hp hk
  | binOp op t x y t' => exact sim_bin h ho hi hs hp hn hk
  | unOp op t x => exact sim_un h ho hi hs hn hk
  | convert s t x => exact sim_conv h ho hi hs hn hk
  | makeFunc fn first cap => exact sim_mkfn h ho hi hs hn hk
  | slice t x lo hi' mx => exact sim_sub h ho hi hs hp hn hk
  | fieldAddr t x j => exact sim_off h ho hi hs hn hk
  | indexAddr t x y => exact sim_idx h ho hi hs hp hn hk
  | index t x y => exact sim_bidx h ho hi hs hp hn hk
  | extract x j => exact sim_ext h ho hi hs hn hk
  | call c =>
    cases hc : c.callee with
    | value f =>
      by_cases hco : ∃ d f args, i = .callo d f args
      · exact sim_callo h ho hc hi hs hp hn hco hk
      · exact sim_call h ho hc hi hs hp hn (fun d f args e => hco ⟨d, f, args, e⟩) hk
    | invoke r m => exact bad (by unfold opAI; rw [ho]; simp only [hc])
    | builtin b =>
      cases b with
      | len => exact sim_len h ho hc hi hs hn hk
      | append => exact sim_app h ho hc hi hs hp hn hk
      | _ => exact bad (by unfold opAI; rw [ho]; simp only [hc])
  | _ => exact bad (by unfold opAI; rw [ho])

theorem gd_beq (b w : Bool) : (some b == some w) = gd b w := by cases b <;> cases w <;> rfl
theorem forceL_eq : ∀ {l r : List Bool}, forceL l = some r → r = l
  | [], r, h => by cases h; rfl
  | b :: l, r, h => by
    simp only [forceL] at h
    split at h
    · rename_i r' hr
      cases h
      rw [forceL_eq hr]
    · cases h
/-- the model's guard is the Boolean that the frame tells, as far as it is told -/
theorem ctx_none {ops : Array Oper} {g : Option (Nat × Bool)} (hg : guardOf ops o = some g) (hw : (⟨g, i⟩ : GI).ctx fr = some none) : Region.wanted o (yielded ops a.tmps) = true := by
  unfold guardOf at hg
  unfold Region.wanted
  split at hg
  · rename_i hn
    rw [hn]
  · rename_i j want hgd
    split at hg
    · cases hg
      simp only [GI.ctx] at hw
      split at hw <;> cases hw
    · cases hg
theorem ctx_some (h : Conc E G fr st a w) {ops : Array Oper} {g : Option (Nat × Bool)} (hg : guardOf ops o = some g) {c : Bool} (hw : (⟨g, i⟩ : GI).ctx fr = some (some c)) : Region.wanted o (yielded ops a.tmps) = c := by
  unfold guardOf at hg
  unfold Region.wanted
  split at hg
  · cases hg; cases hw
  · rename_i j want hgd
    rw [hgd]
    split at hg
    · rename_i d hd
      cases hg
      have key : ∀ lit, a.tmps.getD d undef = .bool lit → yielded ops a.tmps j = some lit := by
        intro lit hv
        unfold yielded
        rw [hd]
        simp only [Option.bind_some]
        cases hq : a.tmps[d]? with
        | none => simp [Array.getD_eq_getD_getElem?, hq, undef] at hv
        | some v =>
          have : v = .bool lit := by simpa [Array.getD_eq_getD_getElem?, hq] using hv
          rw [this]
      have keyu : a.tmps.getD d undef = undef → yielded ops a.tmps j = none := by
        intro hv
        unfold yielded
        rw [hd]
        simp only [Option.bind_some]
        cases hq : a.tmps[d]? with
        | none => rfl
        | some v =>
          have : v = undef := by simpa [Array.getD_eq_getD_getElem?, hq] using hv
          rw [this]
          rfl
      simp only [GI.ctx] at hw
      split at hw
      · rename_i b hl
        cases hw
        simp only
        rw [key _ (h.slots d _ hl).bool, gd_beq]
      · rename_i c0 b hl
        cases hw
        cases c0 with
        | true =>
          have h1 : RelS G (a.tmps.getD d undef) (.bool b) := (h.slots d _ hl).1 rfl
          simp only
          rw [key _ h1.bool, gd_beq, Bool.true_and]
        | false =>
          simp only
          rw [keyu ((h.slots d _ hl).2 rfl)]
          rfl
      · cases hw
    · cases hg
theorem memN_iff {s : Nat} : ∀ {l : List Nat}, memN s l = true ↔ s ∈ l
  | [] => by simp [memN]
  | x :: l => by
    simp only [memN, List.mem_cons]
    split
    · rename_i hb
      simp [Nat.eq_of_beq_eq_true hb]
    · rename_i hb
      have : s ≠ x := fun e => by rw [e, Nat.beq_refl] at hb; cases hb
      simp [this, memN_iff]
theorem avail_mem {fr : Fr} : ∀ {l : List Nat}, allT (availB fr l) → ∀ s ∈ l, ∀ c x, fr s = some (.when c x) → c = true
  | [], _, s, hs, _, _, _ => by cases hs
  | y :: l, h, s, hs, c, x, hc => by
    simp only [availB] at h
    rcases List.mem_cons.1 hs with rfl | hs
    · rw [hc] at h
      exact h.1
    · split at h
      · exact avail_mem h.2 s hs c x hc
      · exact avail_mem h s hs c x hc
theorem Conc.unwr (h : Conc E G fr st a w) {l : List Nat} (ha : allT (availB fr l)) : Conc E G (Proofs.YtpcddcfpbohogaaDoor.unwr fr l) st a w :=
  { h with
    slots := fun s x hs => by
      unfold Proofs.YtpcddcfpbohogaaDoor.unwr at hs
      split at hs
      · rename_i hm
        split at hs
        · rename_i c y hy
          split at hs
          case h_2 => cases hs; exact h.slots s _ hy
          cases hs
          have h1 := (h.slots s _ hy).1 (avail_mem ha s (memN_iff.1 hm) c _ hy)
          cases x <;> first
            | exact h1
            | exact h1.elim
        · exact h.slots s x hs
      · exact h.slots s x hs
    pnone := fun k hk => h.pnone k (by
      unfold Proofs.YtpcddcfpbohogaaDoor.unwr at hk
      split at hk
      · split at hk
        · split at hk <;> cases hk
        · exact hk
      · exact hk) }
theorem Conc.rewr {l : List Nat} {d : Nat} {v : AV} {c : Bool} (ha : allT (availB fr l)) (hc : c = true) (hv : v.isWhen = false) (h : Conc E G (put1 (Proofs.YtpcddcfpbohogaaDoor.unwr fr l) d v) st a w) : Conc E G (upd fr d (some (.when c v))) st a w :=
  { h with
    slots := fun s x hs => by
      have hsl := h.slots s
      simp only [put1, upd_at] at hs hsl
      split at hs
      · rename_i e
        cases hs
        rw [if_pos e] at hsl
        have h1 := hsl v rfl
        refine ⟨fun _ => ?_, (fun e => by rw [hc] at e; cases e)⟩
        cases v <;> first
          | exact h1
          | cases hv
      · rename_i e
        rw [if_neg e] at hsl
        unfold Proofs.YtpcddcfpbohogaaDoor.unwr at hsl
        split at hsl
        · rename_i hm
          cases x with
          | when c' y =>
            rw [hs] at hsl
            simp only at hsl
            split at hsl
            · rename_i hnw
              have hct := avail_mem ha s (memN_iff.1 hm) c' y hs
              have h1 := hsl y rfl
              refine ⟨fun _ => ?_, (fun e => by rw [hct] at e; cases e)⟩
              cases y <;> first
                | exact h1
                | cases hnw
            · exact hsl _ rfl
          | _ =>
            rw [hs] at hsl
            exact hsl _ rfl
        · exact hsl x hs
    pnone := fun k hk => h.pnone k (by
      simp only [put1, upd_at] at hk ⊢
      split at hk
      · cases hk
      · rename_i e
        rw [if_neg e]
        unfold Proofs.YtpcddcfpbohogaaDoor.unwr
        rw [hk]
        split <;> rfl) }
/-- an instruction that leaves variables and rows alone, in a frame of which more is known: its value -/
theorem still_put {i : AI} (hst : i.still = true) {d : Nat} (hd : i.dst = some d) {rs : Option RS} {fr f : Fr} {st s : St} {p : Prop} (h : astep P i rs fr st = some (f, s, p)) : s = st ∧ ∃ v, f = put1 fr d v := by
  unfold AI.still at hst
  cases i <;> simp only [AI.cl, Bool.false_eq_true] at hst <;> simp only [AI.dst, reduceCtorEq, Option.some.injEq] at hd
  all_goals
    (first | subst hd | skip)
    simp only [astep] at h
    (repeat' (split at h)) <;> first
      | (cases h; exact ⟨rfl, _, rfl⟩)
      | (cases h; done)
      | (cases h; refine ⟨rfl, _, (congrArg (fun k => put1 fr k _) (Option.some.inj (by assumption : some d = some _))).symm⟩)
      | (cases h; cases hd)
theorem dst_of_eq {x y : Option Nat} (h : dstEq x y = true) : x = y := by
  cases x with
  | none => cases y with
    | none => rfl
    | some b => cases h
  | some a => cases y with
    | none => cases h
    | some b => rw [Nat.eq_of_beq_eq_true h]
/-- the operation at a place of a region, and its instruction -/
def At (P : Program) (mu : List Nat) (ops : Array Oper) (gl : List GI) : Prop := gl.length = ops.size ∧ ∀ (k : Nat) o x, ops[k]? = some o → gl[k]? = some x → guardOf ops o = some x.g ∧ opAI P mu (isGuard ops k) o = some x.i ∧ x.i.dst = o.dst
theorem at_aux {ops : Array Oper} : ∀ {l : List Oper} {k : Nat} {gl : List GI}, opsGI P mu ops k l = some gl → gl.length = l.length ∧ ∀ (j : Nat) o x, l[j]? = some o → gl[j]? = some x → guardOf ops o = some x.g ∧ opAI P mu (isGuard ops (k + j)) o = some x.i ∧ x.i.dst = o.dst
  | [], k, gl, h => by cases h; exact ⟨rfl, fun j o x ho => by simp at ho⟩
  | o :: l, k, gl, h => by
    unfold opsGI at h
    split at h
    · rename_i g i r hg hi hr
      split at h
      · rename_i hd
        cases h
        obtain ⟨h1, h2⟩ := at_aux hr
        refine ⟨by simp [h1], fun j o' x ho hx => ?_⟩
        cases j with
        | zero => simp at ho hx; subst ho hx; exact ⟨hg, hi, dst_of_eq hd⟩
        | succ j =>
          have := h2 j o' x (by simpa using ho) (by simpa using hx)
          rw [show k + (j + 1) = k + 1 + j by omega]
          exact this
      · cases h
    · cases h
theorem at_of {ops : Array Oper} {gl : List GI} (h : opsGI P mu ops 0 ops.toList = some gl) : At P mu ops gl := by
  obtain ⟨h1, h2⟩ := at_aux h
  refine ⟨by simpa using h1, fun k o x ho hx => ?_⟩
  have := h2 k o x (by simpa using ho) hx
  rwa [Nat.zero_add] at this
/-- one step, whatever its guard says -/
theorem gsim (h : Conc E G fr st a w) {ops : Array Oper} {gl : List GI} (hat : At P mu ops gl) {k : Nat} {o : Oper} {x : GI} (ho : ops[k]? = some o) (hx : gl[k]? = some x) (hs : gstep P x rs fr st = some (fr', st', p)) (hp : p) (hn : ∀ d, x.i.dst = some d → d < E.n) (hk : Then E fr' st' K) :
    if Region.wanted o (yielded ops a.tmps) then o.wp P a w K Q else K (a.put o.dst undef) w := by
  obtain ⟨h1, h2, h3⟩ := hat.2 k o x ho hx
  obtain ⟨g, ai⟩ := x
  unfold gstep at hs
  split at hs
  · rename_i hw
    rw [ctx_none (i := ai) h1 hw, if_pos rfl]
    exact sim h h2 hs hp (fun d hd => hn d (by rw [← hd]; exact h3)) hk
  · rename_i c hw
    split at hs
    · rename_i d hst hd
      split at hs
      · rename_i fr2 s2 p2 ha
        split at hs
        · rename_i v hv
          split at hs
          · rename_i bs hnw hbs
            have hbs' := forceL_eq hbs
            subst hbs'
            cases hs
            obtain ⟨e1, v2, e2⟩ := still_put hst hd ha
            subst e1 e2
            unfold put1 at hv
            rw [upd_same] at hv
            cases hv
            cases c with
            | true =>
              obtain ⟨hp1, hp2⟩ := hp rfl
              rw [ctx_some (i := ai) h h1 hw, if_pos rfl]
              exact sim (h.unwr hp2) h2 ha hp1 (fun d hd => hn d (by rw [← hd]; exact h3)) fun G' a' w' hC => hk _ _ _ (hC.rewr hp2 rfl hnw)
            | false =>
              rw [ctx_some (i := ai) h h1 hw, if_neg (by simp), ← h3, hd]
              exact hk _ _ _ (h.putW (hn d hd) ⟨(fun e => by cases e), fun _ => rfl⟩)
          · cases hs
        · cases hs
      · cases hs
    · cases hs
  · cases hs

/-- a region in the order of the text, with what the prover names for each instruction -/
def asteps (P : Program) : List (GI × Option RS) → Fr → St → Option (Fr × St × Prop)
  | [], fr, st => some (fr, st, True)
  | (x, rs) :: l, fr, st => match gstep P x rs fr st with
    | some (fr, st, p) => match asteps P l fr st with
      | some (fr, st, q) => some (fr, st, p ∧ q)
      | none => none
    | none => none
theorem silent_true {i : AI} {rs : Option RS} {fr f : Fr} {st s : St} {p : Prop} (hs : i.silent = true) (hl : i.loud fr = false) (h : astep P i rs fr st = some (f, s, p)) : p := by
  cases i <;> simp only [AI.silent, Bool.false_eq_true] at hs
  case bin d op bt x y =>
    simp only [astep] at h
    split at h
    · split at h
      · rename_i u v _ _ c q hb
        cases h
        unfold binAV at hb
        split at hb
        · split at hb
          · cases hs
          · cases hs
          · split at hb
            · cases op <;> simp only [Bool.false_eq_true] at hs <;> (cases hb; trivial)
            · cases hb
        · cases op <;> simp only [Bool.false_eq_true] at hs <;> first | (cases hb; trivial) | cases hb
        · split at hb
          · cases op <;> simp only [Bool.false_eq_true] at hs <;> first | (cases hb; trivial) | cases hb
          · cases hb
        · cases hb
      · cases h
    · cases h
  all_goals
    simp only [astep] at h
    (repeat' (split at h)) <;> first
      | (cases h; trivial)
      | (cases h; done)
      | (exfalso; simp [AI.loud, *] at hl)
theorem quiet_true {x : GI} {rs : Option RS} {fr f : Fr} {st s : St} {p : Prop} (hq : x.quiet fr = true) (h : gstep P x rs fr st = some (f, s, p)) : p := by
  unfold GI.quiet at hq
  split at hq
  · rename_i hs
    unfold gstep at h
    split at hq
    · rename_i hc
      rw [hc] at h
      exact silent_true hs (by simpa using hq) h
    · rename_i c hc
      rw [hc] at h
      simp only at h
      split at hq
      · rename_i ha
        split at h
        · split at h
          · rename_i hst
            split at h
            · split at h
              · rename_i bs _ hbs
                cases h
                exact fun _ => ⟨silent_true hs (by simpa using hq) hst, by rw [forceL_eq hbs, ha]; trivial⟩
              · cases h
            · cases h
          · cases h
        · cases h
      · cases hq
    · cases hq
  · cases hq
theorem arun_asteps : ∀ {gl : List GI} {rs rs' : List RS} {fr fr' : Fr} {st st' : St} {p : Prop}, arun P gl rs fr st = some (rs', fr', st', p) → ∃ l : List (GI × Option RS), l.map (·.1) = gl ∧ ∃ q, asteps P l fr st = some (fr', st', q) ∧ (p → q)
  | [], rs, rs', fr, fr', st, st', p, h => by cases h; exact ⟨[], rfl, _, rfl, id⟩
  | x :: gl, rs, rs', fr, fr', st, st', p, h => by
    unfold arun at h
    split at h
    · split at h
      · rename_i r rs0
        split at h
        · rename_i f1 s1 p1 hs
          split at h
          · rename_i r2 f2 s2 q2 hr
            cases h
            obtain ⟨l, h1, q, h2, h3⟩ := arun_asteps hr
            refine ⟨(x, some r) :: l, by simp [h1], p1 ∧ q, ?_, fun hh => ⟨hh.1, h3 hh.2⟩⟩
            simp only [asteps, hs, h2]
          · cases h
        · cases h
      · cases h
    · split at h
      · rename_i f1 s1 p1 hq hs
        obtain ⟨l, h1, q, h2, h3⟩ := arun_asteps h
        refine ⟨(x, none) :: l, by simp [h1], p1 ∧ q, ?_, fun hh => ⟨quiet_true hq hs, h3 hh⟩⟩
        simp only [asteps, hs, h2]
      · rename_i f1 s1 p1 hq hs
        split at h
        · rename_i r2 f2 s2 q2 hr
          cases h
          obtain ⟨l, h1, q, h2, h3⟩ := arun_asteps hr
          refine ⟨(x, none) :: l, by simp [h1], p1 ∧ q, ?_, fun hh => ⟨hh.1, h3 hh.2⟩⟩
          simp only [asteps, hs, h2]
        · cases h
      · cases h
def dstsLt (n : Nat) (gl : List GI) : Bool := gl.all fun x => match x.i.dst with | some d => Nat.blt d n | none => true
theorem dstsLt_at {n : Nat} {gl : List GI} (h : dstsLt n gl = true) {k : Nat} {x : GI} (hx : gl[k]? = some x) : ∀ d, x.i.dst = some d → d < n := by
  intro d hd
  have := List.all_eq_true.1 h x (List.mem_of_getElem? hx)
  rw [hd] at this
  simp only at this
  have h2 : Nat.ble (d + 1) n = true := this
  exact Nat.le_of_ble_eq_true h2
theorem seq_run {ops : Array Oper} {gl : List GI} (hat : At P mu ops gl) (hd : dstsLt E.n gl = true) (hQ : ∀ G a w, Conc E G fr' st' a w → Q .normal a w) :
    ∀ {l : List (GI × Option RS)} {k : Nat} {fr : Fr} {st : St} {p : Prop} {G : Gho} {a : Act} {w : World}, (∀ j, (l.map (·.1))[j]? = gl[k + j]?) → k + l.length = ops.size → asteps P l fr st = some (fr', st', p) → p → Conc E G fr st a w →
      wpOps P ops Q (List.range' k l.length) a w
  | [], k, fr, st, p, G, a, w, _, _, hs, _, h => by cases hs; exact hQ _ _ _ h
  | (x, rs) :: l, k, fr, st, p, G, a, w, hl, hlen, hs, hp, h => by
    unfold asteps at hs
    split at hs
    · rename_i f1 s1 p1 h1
      split at hs
      · rename_i f2 s2 q2 h2
        cases hs
        have hx : gl[k]? = some x := by simpa using (hl 0).symm
        have hk : k < ops.size := by simp at hlen; omega
        have ho : ops[k]? = some ops[k] := Array.getElem?_eq_getElem hk
        rw [List.length_cons, List.range'_succ]
        simp only [wpOps, ho]
        have hg := gsim (Q := Q) (K := wpOps P ops Q (List.range' (k + 1) l.length)) h hat ho hx h1 hp.1 (dstsLt_at hd hx) (fun G' a' w' hc => seq_run hat hd hQ (fun j => by
          have := hl (j + 1)
          simp only [List.map_cons, List.getElem?_cons_succ] at this
          rw [this, show k + (j + 1) = k + 1 + j by omega]) (by simp at hlen; omega) h2 hp.2 hc)
        split at hg
        · rename_i hw; rw [if_pos hw]; exact .inl hg
        · rename_i hw; rw [if_neg hw]; exact hg
      · cases hs
    · cases hs
end
end Go.Proofs.YtpcddcfpbohogaaDoor
