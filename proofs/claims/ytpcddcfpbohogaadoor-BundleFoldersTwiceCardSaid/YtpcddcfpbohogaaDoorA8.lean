/-
  The abstract walk: closures, parts of strings and slices.
-/
import Derived.Test.YtpcddcfpbohogaaDoorA7
namespace Go.Proofs.YtpcddcfpbohogaaDoor
set_option linter.unusedSimpArgs false
set_option linter.unusedVariables false
open Go.RowKit

section
variable {P : Program} {mu : List Nat} {E : Env} {G : Gho} {fr fr' : Fr} {st st' : St} {a : Act} {w : World} {o : Oper} {K : Act → World → Prop} {Q : Exit → Act → World → Prop} {p : Prop} {rs : Option RS} {i : AI} {gs : Bool}

/-- a variable whose cells stay from now on -/
theorem Conc.freezeBox (h : Conc E G fr st a w) {id g : Nat} {cs : List AV} {fz : Bool} (hb : st.box id = some (cs, fz)) (hB : G.B id = some g) :
    ∃ σ' : Sg, G.σ.le σ' ∧ Conc E { G with σ := σ' } fr { st with box := upd st.box id (some (cs, true)) } a w ∧ ∃ vs : List Value, RelL σ' vs (cs.map AV.plain) ∧ ∀ (j : Nat) v, vs[j]? = some v → σ' g j = some v := by
  obtain ⟨g', hB', hge, ty, vs, hg, hrl, htg, hfz⟩ := h.box id cs fz hb
  rw [hB] at hB'
  cases hB'
  have hle : G.σ.le fun b q => if b = g then vs[q]? else G.σ b q := fun b q v hv => by
    by_cases e : b = g
    · subst e
      simp only [if_true]
      cases fz with
      | false => have := hfz q; rw [hv] at this; cases this
      | true =>
        have h1 := h.hold _ _ _ hv
        rw [cell_of_row w b q vs ty (0, 0) hg] at h1
        exact h1
    · simp only [if_neg e]; exact hv
  have hG : G.le { G with σ := fun b q => if b = g then vs[q]? else G.σ b q } := ⟨hle, fun _ _ _ h => h, fun _ _ h => h, fun _ _ _ h => h⟩
  refine ⟨_, hle, ?_, vs.toList, ?_, fun j v hv => by simpa using hv⟩
  · exact
    { defers := h.defers
      size := h.size
      slots := fun s x hs => (h.slots s x hs).mono hG fun _ _ _ _ hg => hg
      hold := fun b q v hv => by
        simp only at hv
        split at hv
        · rename_i e
          subst e
          rw [cell_of_row w b q vs ty (0, 0) hg]
          exact hv
        · exact h.hold b q v hv
      ext := ⟨h.ext.1.trans hle, fun b q hbq => by
        simp only
        rw [if_neg (by omega)]
        exact h.ext.2 b q hbq⟩
      below := h.below
      box := fun id' cs' fz' hs' => by
        simp only at hs'
        rw [upd_at] at hs'
        split at hs'
        · rename_i e
          cases hs'
          subst e
          exact ⟨g, hB, hge, ty, vs, hg, hrl.mono hle, htg.mono hG, fun j v hv => by simp only [if_true]; exact hv⟩
        · rename_i e
          obtain ⟨g2, k1, k2, t2, vs2, k3, k4, k5, k6⟩ := h.box id' cs' fz' hs'
          have hne : g2 ≠ g := fun e' => e (h.binj id' id g (e' ▸ k1) hB)
          refine ⟨g2, k1, k2, t2, vs2, k3, k4.mono hle, k5.mono hG, ?_⟩
          cases fz' with
          | true => exact fun j v hv => hle _ _ _ (k6 j v hv)
          | false => exact fun j => by simp only [if_neg hne]; exact k6 j
      bnone := fun id' hs' => by
        simp only at hs'
        rw [upd_at] at hs'
        split at hs'
        · cases hs'
        · exact h.bnone id' hs'
      binj := h.binj
      row := fun s r hs' => by
        obtain ⟨⟨k1, e, cur, k3, k4, k5, k8⟩, k9⟩ := h.row s r hs'
        have hne : r.g ≠ g := fun e' => k9 id (e' ▸ hB)
        exact ⟨⟨k1, e, cur, k3, k4, k5, fun j hj => by simp only [if_neg hne]; exact k8 j hj⟩, k9⟩
      rinj := h.rinj
      rlt := h.rlt
      phi := fun k x hk => by
        obtain ⟨⟨h1, h2⟩, h3, h4⟩ := h.phi k x hk
        have hne : x.g ≠ g := fun e' => h3 id (e' ▸ hB)
        exact ⟨⟨h1, h2.on hle rfl fun j => by simp only [if_neg hne]; exact h2.free j⟩, h3, h4⟩
      phinj := h.phinj
      pnone := h.pnone
      small := h.small }
  · have := (hrl.mono hle).plain
    rw [List.map_map, show (AV.plain ∘ AV.unown) = AV.plain from funext plain_unown] at this
    exact this
theorem freeze_rel : ∀ {xs : List Operand} {ys : List Opd} {G : Gho} {st st' : St} {cs : List AV}, Conc E G fr st a w → (∀ ts : List TypeId, True) → opdsOf P xs [] = some ys → freeze st fr ys = some (cs, st') →
    ∃ σ' : Sg, G.σ.le σ' ∧ Conc E { G with σ := σ' } fr st' a w ∧ RelL σ' (xs.map a.eval) cs
  | [], ys, G, st, st', cs, h, _, h1, h2 => by
    cases h1
    cases h2
    exact ⟨G.σ, Sg.le.refl _, h, .nil⟩
  | x :: xs, ys, G, st, st', cs, h, _, h1, h2 => by
    unfold opdsOf at h1
    split at h1
    · rename_i y ys' hy hys
      cases h1
      unfold freeze at h2
      split at h2
      · rename_i id off hv
        split at h2
        · rename_i cs0 fz hb
          split at h2
          · rename_i cs' hdr
            split at h2
            · rename_i r st2 hr
              cases h2
              obtain ⟨g, hB, hpv, _⟩ := h.ev hy hv
              obtain ⟨σ1, hle1, hC1, vs, hvs, hσ⟩ := h.freezeBox hb hB
              obtain ⟨σ2, hle2, hC2, hrl⟩ := freeze_rel hC1 (fun _ => trivial) hys hr
              obtain ⟨d1, d2⟩ := dropN_spec hdr
              refine ⟨σ2, hle1.trans hle2, hC2, .cons ?_ hrl⟩
              rw [hpv]
              have hdv := (hvs.drop off).mono hle2
              rw [← List.map_drop, ← d1] at hdv
              refine .ro _ g off (fun j => (vs.drop off).getD j undef) (fun j hj => ?_) fun j c hc => ?_
              · have hj' : j < (vs.drop off).length := by rw [hdv.1]; exact hj
                have h3 : (vs.drop off)[j]? = some ((vs.drop off)[j]) := List.getElem?_eq_getElem hj'
                rw [List.getD, h3]
                rw [List.getElem?_drop] at h3
                exact hle2 _ _ _ (hσ _ _ h3)
              · obtain ⟨v, hv1, hv2⟩ := hdv.at_ hc
                rw [List.getD, hv1]
                exact hv2
            · cases h2
          · cases h2
        · cases h2
      · cases h2
      · cases h2
      · cases h2
      · cases h2
      · cases h2
      · cases h2
      · rename_i c hn1 hn2 hn3 hn4 hn5 hn6 hn7 hc
        split at h2
        · rename_i r st2 hr
          cases h2
          obtain ⟨σ2, hle2, hC2, hrl⟩ := freeze_rel h (fun _ => trivial) hys hr
          refine ⟨σ2, hle2, hC2, .cons ?_ hrl⟩
          have h0 := h.ev hy hc
          have key : Rel1 G.σ (a.eval x) c.plain := by
            cases c <;> first
              | (have := h0.1.plain; rw [plain_unown] at this; exact this)
              | exact absurd rfl (hn1 _ _)
              | exact absurd rfl (hn2 _)
              | exact absurd rfl (hn3 _)
              | exact absurd rfl (hn4 _ _)
              | exact absurd rfl (hn5 _ _ _ _ _)
              | exact absurd rfl (hn6 _ _ _ _)
              | exact absurd rfl (hn7 _ _ _)
          exact key.mono hle2
        · cases h2
      · cases h2
    · cases h1
theorem sim_mkfn (h : Conc E G fr st a w) {fn : Fn} {first cap : Array Operand} (ho : o.op = .makeFunc fn first cap) (hi : opAI P mu gs o = some i) (hs : astep P i rs fr st = some (fr', st', p)) (hn : ∀ d, o.dst = some d → d < E.n) (hk : Then E fr' st' K) : o.wp P a w K Q := by
  unfold opAI at hi
  rw [ho] at hi
  cases fn with
  | func f =>
    simp only at hi
    split at hi
    · rename_i d ys hd hys hf0
      cases hi
      simp only [astep] at hs
      split at hs
      · rename_i cs st2 hfz
        cases hs
        obtain ⟨σ2, hle, hC, hrl⟩ := freeze_rel h (fun _ => trivial) hys hfz
        have hfirst : first = #[] := Array.size_eq_zero_iff.1 hf0
        have hrun : (execOp a.eval o).run P w = .ok (.value (.func (.func f) #[] (cap.toList.map a.eval).toArray)) w := by
          simp [execOp, ho, Instr.makeFunc, hfirst]
          exact Array.ext' (by simp)
        unfold Oper.wp
        rw [hrun, Oper.upon_value, hd]
        refine hk _ _ _ (hC.put (hn d hd) (RelS.of1 (.fn f cs _ hrl.1 (fun j => (cap.toList.map a.eval).getD j undef) (fun j v hv => by rw [List.getD, hv]; rfl) fun j c hc => ?_)))
        obtain ⟨v, hv1, hv2⟩ := hrl.at_ hc
        rw [List.getD, hv1]
        exact hv2
      · cases hs
    · cases hi
  | method m => cases hi
  | methodOf t m => cases hi
  | via t p f b => cases hi
  | yield l => cases hi

theorem bound_run {isSlice : Bool} {x : Operand} {y : Opd} (h : Conc E G fr st a w) (hy : opdOf P 0 x = some y) {n : Int} {k : IntKind} (hv : y.ev fr = some (.int k n)) (m : Nat) (code : BoundsCode) (h0 : 0 ≤ n) (h1 : n ≤ m) : (Instr.sliceBound (a.eval x) m code).run P w = .ok n.toNat w := by
  rw [(h.ev hy hv).int]
  exact run_sliceBound w k n m code h0 h1
theorem bounds_run (h : Conc E G fr st a w) (isSlice : Bool) (len cap : Nat) (hlc : len ≤ cap) {lo hi : Option Operand} {lo' hi' : Option Opd} (hl : optOpd P lo = some lo') (hh : optOpd P hi = some hi') {x y : Int} (hx : intOfOpt fr 0 lo' = some x) (hy : intOfOpt fr len hi' = some y)
    (h0 : 0 ≤ x) (h1 : x ≤ y) (h2 : y ≤ len) : (Instr.sliceBounds isSlice len cap (lo.map a.eval) (hi.map a.eval) none).run P w = .ok (x.toNat, y.toNat, cap) w := by
  have high : ∀ code, (match hi.map a.eval with | some v => Instr.sliceBound v cap code | none => pure len : Sem Nat).run P w = .ok y.toNat w := by
    intro code
    cases hi with
    | none =>
      cases hh
      simp only [intOfOpt, Option.some.injEq] at hy
      subst hy
      simp
    | some v =>
      unfold optOpd at hh
      simp only at hh
      split at hh
      · rename_i z hz
        cases hh
        simp only [intOfOpt] at hy
        split at hy
        · rename_i k n hv
          cases hy
          exact bound_run (isSlice := isSlice) h hz hv cap code (by omega) (by omega)
        · cases hy
      · cases hh
  have low : ∀ code, (match lo.map a.eval with | some v => Instr.sliceBound v y.toNat code | none => pure 0 : Sem Nat).run P w = .ok x.toNat w := by
    intro code
    cases lo with
    | none =>
      cases hl
      simp only [intOfOpt, Option.some.injEq] at hx
      subst hx
      simp
    | some v =>
      unfold optOpd at hl
      simp only at hl
      split at hl
      · rename_i z hz
        cases hl
        simp only [intOfOpt] at hx
        split at hx
        · rename_i k n hv
          cases hx
          exact bound_run (isSlice := isSlice) h hz hv y.toNat code (by omega) (by omega)
        · cases hx
      · cases hl
  have h3 := high (if isSlice then .sliceAcap else .sliceAlen)
  have h4 := low .sliceB
  unfold Instr.sliceBounds
  simp only [Sem.run_bind, Sem.run_pure, Result.andThen_ok]
  cases hi with
  | none =>
    simp only [Option.map_none] at h3 ⊢
    rw [Sem.run_bind, h3]
    simp only [Result.andThen_ok]
    cases lo with
    | none => simp only [Option.map_none] at h4 ⊢; rw [Sem.run_bind, h4]; rfl
    | some v => simp only [Option.map_some, Option.isSome_none, Bool.false_eq_true, if_false] at h4 ⊢; rw [Sem.run_bind, h4]; rfl
  | some u =>
    simp only [Option.map_some] at h3 ⊢
    rw [Sem.run_bind, h3]
    simp only [Result.andThen_ok]
    cases lo with
    | none => simp only [Option.map_none] at h4 ⊢; rw [Sem.run_bind, h4]; rfl
    | some v => simp only [Option.map_some, Option.isSome_none, Bool.false_eq_true, if_false] at h4 ⊢; rw [Sem.run_bind, h4]; rfl
theorem sim_sub (h : Conc E G fr st a w) {t : TypeId} {x : Operand} {lo hi mx : Option Operand} (ho : o.op = .slice t x lo hi mx) (hi' : opAI P mu gs o = some i) (hs : astep P i rs fr st = some (fr', st', p)) (hp : p) (hn : ∀ d, o.dst = some d → d < E.n) (hk : Then E fr' st' K) : o.wp P a w K Q := by
  unfold opAI at hi'
  rw [ho] at hi'
  cases mx with
  | some m => cases hi'
  | none =>
    simp only at hi'
    split at hi'
    · rename_i d x' lo' hh' hd hx hlo hhi hu
      cases hi'
      simp only [astep] at hs
      split at hs
      · rename_i s heq hxv
        split at hs
        · rename_i u v hu1 hv1
          cases hs
          obtain ⟨h0, h1, h2⟩ := hp
          have hsv := (h.ev hx hxv).str
          have hb := bounds_run h false s.size s.size (Nat.le_refl _) hlo hhi hu1 hv1 h0 h1 h2
          have hrun : (execOp a.eval o).run P w = .ok (.value (.string (s.extract u.toNat v.toNat))) w := by
            simp only [execOp, ho, hsv, Instr.sliceAt, Instr.slice, Sem.run_bind, run_underlying hu, Result.andThen_ok, Option.map_none, Option.isSome_none, Bool.false_eq_true, if_false, hb, Sem.run_pure]
          exact sim_value h hrun hd (hn d hd) (x := .str (s.extract u.toNat v.toNat)) ⟨.str _, trivial⟩ hk
        · cases hs
      · rename_i heq _; cases heq
      · cases hs
    · rename_i d x' lo' hh' e hd hx hlo hhi hu
      split at hi'
      · rename_i inf hinf
        split at hi'
        · rename_i hpos
          cases hi'
          simp only [astep] at hs
          split at hs
          · rename_i heq _; cases heq
          · rename_i tg esz l heq hxv
            split at hs
            · rename_i u v hu1 hv1
              cases hs
              obtain ⟨he, h0, h1, h2⟩ := hp
              subst he
              obtain ⟨A, cap, b, q, f, hv, q2, q3, q4, q5, q6, _⟩ := lst_open (h.ev hx hxv)
              have hb := bounds_run h true l.length cap q2 hlo hhi hu1 hv1 h0 h1 h2
              have hsz : (sizeOf e).run P w = .ok inf.size w := by simp [sizeOf, typeInfo, hinf]
              have hrun : (execOp a.eval o).run P w = .ok (.value (.slice (if cap = u.toNat then A else A.map (·.add (u.toNat * inf.size))) (v.toNat - u.toNat) (cap - u.toNat))) w := by
                simp only [execOp, ho, hv, Instr.sliceAt, Instr.slice, Sem.run_bind, run_underlying hu, Result.andThen_ok, Option.map_none, hb, hsz, Sem.run_pure]
              have hlen : ((l.take v.toNat).drop u.toNat).length = v.toNat - u.toNat := by rw [List.length_drop, List.length_take]; omega
              have hat : ∀ i, i < v.toNat - u.toNat → ((l.take v.toNat).drop u.toNat)[i]? = l[u.toNat + i]? := fun i hi => by
                rw [List.getElem?_drop, List.getElem?_take, if_pos (by omega)]
              refine sim_value h hrun hd (hn d hd) (x := .lst .any inf.size ((l.take v.toNat).drop u.toNat)) (RelS.of1 (.lst .any inf.size _ _ _ _ b (q + u.toNat * inf.size) (fun i j => f (u.toNat + i) j) hlen.symm (by omega) (fun hpos2 => ?_) (fun i c hc => ?_) (fun i j hi hj => ?_) (fun i j c x hc hx' => ?_) trivial)) hk
              · rw [if_neg (by omega), q3 (by omega)]
                simp [Addr.add_lit]
              · have hi2 : i < v.toNat - u.toNat := by rw [← hlen]; exact (List.getElem?_eq_some_iff.1 hc).1
                rw [hat i hi2] at hc
                exact q4 _ _ hc
              · have := q5 (u.toNat + i) j (by omega) hj
                rw [Nat.add_mul] at this
                rw [← this]
                congr 1
                omega
              · have hi2 : i < v.toNat - u.toNat := by rw [← hlen]; exact (List.getElem?_eq_some_iff.1 hc).1
                rw [hat i hi2] at hc
                exact q6 _ _ _ _ hc hx'
            · cases hs
          · cases hs
        · cases hi'
      · cases hi'
    · cases hi'
end
end Go.Proofs.YtpcddcfpbohogaaDoor
