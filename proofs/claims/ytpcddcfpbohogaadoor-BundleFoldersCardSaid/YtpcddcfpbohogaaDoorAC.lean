/-
  The abstract walk: instructions apart from each other change places; a region that draws its order.
-/
import Derived.Test.YtpcddcfpbohogaaDoorAB
namespace Go.Proofs.YtpcddcfpbohogaaDoor
set_option linter.unusedSimpArgs false
set_option linter.unusedVariables false
open Go.RowKit

def GI.looks (x : GI) : List Nat := x.i.reads ++ match x.g with
  | some (s, _) => [s]
  | none => []
def updO (fr : Fr) (d : Option Nat) (v : Option AV) : Fr :=
  match d with
  | some d => upd fr d v
  | none => fr
theorem updO_comm (fr : Fr) {d d' : Option Nat} (v v' : Option AV) (h : ∀ x, d = some x → d' ≠ some x) : updO (updO fr d v) d' v' = updO (updO fr d' v') d v := by
  cases d with
  | none => cases d' <;> rfl
  | some a => cases d' with
    | none => rfl
    | some b =>
      have hne : a ≠ b := fun e => h a rfl (by rw [e])
      funext s
      simp only [updO, upd_at]
      by_cases h1 : s = b
      · subst h1; rw [if_pos rfl, if_pos rfl, if_neg (fun e => hne e.symm)]
      · rw [if_neg h1, if_neg h1]
theorem ev_upd {fr : Fr} {d : Nat} (v : Option AV) {x : Opd} (h : d ∉ x.slots) : x.ev (upd fr d v) = x.ev fr := by
  cases x with
  | s n => exact upd_ne _ _ (fun e => h (by simp [Opd.slots, e]))
  | k a => rfl
theorem evs_upd {fr : Fr} {d : Nat} (v : Option AV) : ∀ {l : List Opd}, d ∉ l.flatMap Opd.slots → evs (upd fr d v) l = evs fr l
  | [], _ => rfl
  | x :: l, h => by
    simp only [List.flatMap_cons, List.mem_append, not_or] at h
    simp only [evs, ev_upd v h.1, evs_upd v h.2]
theorem afill_upd {fr : Fr} {d : Nat} (v : Option AV) : ∀ {ps : List (Nat × Nat × Opd)} {z : List AV}, d ∉ ps.flatMap (fun x => x.2.2.slots) → afill (upd fr d v) z ps = afill fr z ps
  | [], _, _ => rfl
  | (off, size, x) :: l, z, h => by
    simp only [List.flatMap_cons, List.mem_append, not_or] at h
    simp only [afill, ev_upd v h.1]
    split
    · split
      · split
        · split
          · exact afill_upd v h.2
          · rfl
        · rfl
      · rfl
    · rfl
theorem freeze_upd {fr : Fr} {d : Nat} (v : Option AV) : ∀ {l : List Opd} {st : St}, d ∉ l.flatMap Opd.slots → freeze st (upd fr d v) l = freeze st fr l
  | [], _, _ => rfl
  | x :: l, st, h => by
    simp only [List.flatMap_cons, List.mem_append, not_or] at h
    simp only [freeze, ev_upd v h.1]
    have ih := fun st => freeze_upd (fr := fr) v (l := l) (st := st) h.2
    simp only [ih]
theorem intOfOpt_upd {fr : Fr} {d : Nat} (v : Option AV) {k : Int} {x : Option Opd} (h : d ∉ optSlots x) : intOfOpt (upd fr d v) k x = intOfOpt fr k x := by
  cases x with
  | none => rfl
  | some x => simp only [intOfOpt, ev_upd v (show d ∉ x.slots from h)]

section
variable {P : Program}
theorem put1_upd (fr : Fr) {d d' : Nat} (v : Option AV) (a : AV) (h : d' ≠ d) : put1 (upd fr d v) d' a = upd (put1 fr d' a) d v := by
  have := updO_comm fr (d := some d) (d' := some d') v (some a) (fun x hx e => h (by cases hx; cases e; rfl))
  exact this
set_option maxHeartbeats 1000000 in
theorem astep_fc (i : AI) (rs : Option RS) (fr : Fr) (st : St) {d : Nat} (v : Option AV) (hr : d ∉ i.reads) (hd : i.dst ≠ some d) : astep P i rs (upd fr d v) st = (astep P i rs fr st).map fun r => (upd r.1 d v, r.2) := by
  cases i <;> simp only [AI.reads, AI.dst, List.mem_append, not_or, ne_eq, Option.some.injEq] at hr hd
  case mov d' x =>
    simp only [astep, ev_upd v hr]
    cases x.ev fr <;> simp [put1_upd fr v _ hd]
  case pick d' c x y =>
    simp only [astep, ev_upd v hr.1, ev_upd v hr.2.1, ev_upd v hr.2.2]
    split
    · split
      · split <;> first | rfl | simp [put1_upd fr v _ hd]
      · split
        · rw [ev_upd v hr.2.1]
          split <;> first | rfl | simp [put1_upd fr v _ hd]
        · rfl
    · rfl
  case box d' x =>
    simp only [astep, ev_upd v hr]
    split
    · split <;> simp [put1_upd fr v _ hd]
    · rfl
  case alloc d' z =>
    simp only [astep]
    split <;> simp [put1_upd fr v _ hd]
  case ld d' n agg x =>
    simp only [astep, ev_upd v hr]
    split
    · split
      · split
        · split
          · split <;> simp [put1_upd fr v _ hd]
          · split <;> simp [put1_upd fr v _ hd]
        · rfl
      · rfl
    · split
      · split <;> simp [put1_upd fr v _ hd]
      · split <;> simp [put1_upd fr v _ hd]
    · split
      · split
        · split
          · split <;> simp [put1_upd fr v _ hd]
          · split <;> simp [put1_upd fr v _ hd]
        · rfl
      · rfl
    · rfl
  case st n x y =>
    simp only [astep, ev_upd v hr.1, ev_upd v hr.2]
    split
    · split
      · split <;> rfl
      · rfl
    · split
      · split <;> rfl
      · rfl
    · rfl
  case off d' k x =>
    simp only [astep, ev_upd v hr]
    split
    · simp [put1_upd fr v _ hd]
    · split <;> simp [put1_upd fr v _ hd]
    · simp [put1_upd fr v _ hd]
    · rfl
  case idx d' e x y =>
    simp only [astep, ev_upd v hr.1, ev_upd v hr.2]
    split <;> simp [put1_upd fr v _ hd]
  case bin d' op bt x y =>
    simp only [astep, ev_upd v hr.1, ev_upd v hr.2]
    split
    · split <;> simp [put1_upd fr v _ hd]
    · rfl
  case un d' op x =>
    simp only [astep, ev_upd v hr]
    split
    · split <;> simp [put1_upd fr v _ hd]
    · rfl
  case build d' z ps =>
    simp only [astep, afill_upd v hr]
    split <;> simp [put1_upd fr v _ hd]
  case bsl d' n e z ps =>
    simp only [astep, afill_upd v hr]
    split
    · split <;> simp [put1_upd fr v _ hd]
    · rfl
  case len d' s x =>
    simp only [astep, ev_upd v hr]
    split <;> simp [put1_upd fr v _ hd]
  case app d' e b x y =>
    simp only [astep, ev_upd v hr.1, ev_upd v hr.2]
    split <;> simp [put1_upd fr v _ hd]
  case ext d' k x =>
    simp only [astep, ev_upd v hr]
    split
    · split <;> simp [put1_upd fr v _ hd]
    · rfl
  case call d' f args =>
    simp only [astep, ev_upd v hr.1, evs_upd v hr.2]
    split
    · split
      · cases d' with
        | none => rfl
        | some d' => simp [put1_upd fr v _ (show d' ≠ d from fun e => hd (by rw [e]))]
      · rfl
    · split
      · rename_i d2 _
        have hne : d2 ≠ d := fun e => hd (by rw [e])
        rw [upd_ne fr v hne]
        split
        · simp [put1_upd fr v _ hne]
        · rfl
      · rfl
    · rfl
  case callo d' f args =>
    simp only [astep, ev_upd v hr.1, evs_upd v hr.2]
    split
    · split
      · cases d' with
        | none => rfl
        | some d' => simp [put1_upd fr v _ (show d' ≠ d from fun e => hd (by rw [e]))]
      · rfl
    · split
      · rename_i d2 _
        have hne : d2 ≠ d := fun e => hd (by rw [e])
        simp [put1_upd fr v _ hne]
      · rfl
    · rfl
  case callr d' f args =>
    simp only [astep, ev_upd v hr.1, evs_upd v hr.2]
    split
    · split
      · rename_i d2 _ _
        have hne : d2 ≠ d := fun e => hd (by rw [e])
        rw [upd_ne fr v hne]
        split
        · simp [put1_upd fr v _ hne]
        · rfl
      · rfl
    · split
      · rename_i d2 _
        have hne : d2 ≠ d := fun e => hd (by rw [e])
        rw [upd_ne fr v hne]
        split
        · simp [put1_upd fr v _ hne]
        · rfl
      · rfl
    · split
      · cases d' with
        | none => rfl
        | some d' => simp [put1_upd fr v _ (show d' ≠ d from fun e => hd (by rw [e]))]
      · rfl
    · split
      · cases d' with
        | none => rfl
        | some d' => simp [put1_upd fr v _ (show d' ≠ d from fun e => hd (by rw [e]))]
      · rfl
    · split
      · rename_i d2 _
        have hne : d2 ≠ d := fun e => hd (by rw [e])
        rw [upd_ne fr v hne]
        split
        · simp [put1_upd fr v _ hne]
        · rfl
      · rfl
    · rfl
  case sub d' s e x lo hi =>
    simp only [astep, ev_upd v hr.1, intOfOpt_upd v hr.2.1, intOfOpt_upd v hr.2.2]
    split
    · split <;> simp [put1_upd fr v _ hd]
    · split <;> simp [put1_upd fr v _ hd]
    · rfl
  case bidx d' x y =>
    simp only [astep, ev_upd v hr.1, ev_upd v hr.2]
    split <;> simp [put1_upd fr v _ hd]
  case conv d' k x =>
    simp only [astep, ev_upd v hr]
    split <;> simp [put1_upd fr v _ hd]
  case mkfn d' f cap =>
    simp only [astep, freeze_upd v hr]
    split <;> simp [put1_upd fr v _ hd]
  case eqs d' ng t x y =>
    simp only [astep, ev_upd v hr.1, ev_upd v hr.2]
    split
    · split <;> simp [put1_upd fr v _ hd]
    · split
      · split <;> simp [put1_upd fr v _ hd]
      · rfl
    · rfl
theorem unw_sub {i : AI} {s : Nat} (h : s ∈ i.unw) : s ∈ i.reads := by
  cases i <;> first
    | exact h
    | exact List.mem_append_left _ h
theorem unwr_upd (fr : Fr) {d : Nat} (v : Option AV) {l : List Nat} (h : d ∉ l) : unwr (upd fr d v) l = upd (unwr fr l) d v := by
  funext s
  by_cases hs : s = d
  · subst hs
    have hm : memN s l = false := by
      cases hm : memN s l with
      | false => rfl
      | true => exact absurd (memN_iff.1 hm) h
    simp only [unwr, hm, upd_same]
  · simp only [unwr, upd_ne _ v hs]
theorem availB_upd (fr : Fr) {d : Nat} (v : Option AV) : ∀ {l : List Nat}, d ∉ l → availB (upd fr d v) l = availB fr l
  | [], _ => rfl
  | s :: l, h => by
    simp only [List.mem_cons, not_or] at h
    simp only [availB, upd_ne fr v (show s ≠ d from fun e => h.1 e.symm), availB_upd fr v h.2]
theorem ctx_upd (x : GI) (fr : Fr) {d : Nat} (v : Option AV) (hr : d ∉ x.looks) : x.ctx (upd fr d v) = x.ctx fr := by
  obtain ⟨g, i⟩ := x
  cases g with
  | none => rfl
  | some g =>
    obtain ⟨s, b⟩ := g
    simp only [GI.looks, List.mem_append, not_or] at hr
    have : d ≠ s := by have := hr.2; simp at this; exact this
    simp only [GI.ctx, upd_ne fr v (show s ≠ d from fun e => this e.symm)]
theorem gstep_fc (x : GI) (rs : Option RS) (fr : Fr) (st : St) {d : Nat} (v : Option AV) (hr : d ∉ x.looks) (hd : x.i.dst ≠ some d) : gstep P x rs (upd fr d v) st = (gstep P x rs fr st).map fun r => (upd r.1 d v, r.2) := by
  have hri : d ∉ x.i.reads := fun h => hr (List.mem_append_left _ h)
  have hru : d ∉ x.i.unw := fun h => hri (unw_sub h)
  unfold gstep
  rw [ctx_upd x fr v hr]
  split
  · exact astep_fc x.i rs fr st v hri hd
  · rename_i c hc
    split
    · rename_i d' hst hdst
      have hdd : d' ≠ d := fun e => hd (by rw [hdst, e])
      rw [unwr_upd fr v hru, astep_fc x.i rs _ st v hri hd, availB_upd fr v hru]
      cases astep P x.i rs (unwr fr x.i.unw) st with
      | none => rfl
      | some r =>
        obtain ⟨f2, s2, p2⟩ := r
        simp only [Option.map_some, upd_ne f2 v hdd]
        split
        · rename_i u hu
          split
          · rename_i bs hnw hbs
            simp only [Option.map_some, Option.some.injEq, Prod.mk.injEq, and_true]
            exact updO_comm fr (d := some d) (d' := some d') v (some (.when c u)) (fun x hx e => hdd (by cases hx; cases e; rfl))
          · rfl
        · rfl
    · rfl
  · rfl

/-- the first may come behind the second -/
def okPair : Cl → Cl → Bool
  | .pure, _ => true
  | _, .pure => true
  | .ld, .ld | .ld, .app | .ld, .new => true
  | .app, .ld | .app, .new | .app, .st => true
  | .new, .app | .new, .new => true
  | .st, .app | .st, .new => true
  | _, _ => false
theorem pure_st0 {i : AI} (hc : i.cl = .pure) {rs : Option RS} {fr f : Fr} {st s : St} {p : Prop} (h : astep P i rs fr st = some (f, s, p)) : s = st ∧ ∀ st', astep P i rs fr st' = some (f, st', p) := by
  cases i <;> first | cases hc | skip
  all_goals
    simp only [astep] at h ⊢
    (repeat' (split at h)) <;> first
      | (cases h; exact ⟨rfl, fun st' => rfl⟩)
      | (cases h; done)
      | (cases h; exact ⟨rfl, fun st' => by simp only [*]⟩)
theorem ld_st0 {i : AI} (hc : i.cl = .ld) {rs : Option RS} {fr f : Fr} {st s : St} {p : Prop} (h : astep P i rs fr st = some (f, s, p)) : s = st ∧ ∀ st' : St, (∀ id x, st.box id = some x → st'.box id = some x) → astep P i rs fr st' = some (f, st', p) := by
  cases i <;> first | cases hc | skip
  rename_i d n agg x
  simp only [astep] at h ⊢
  split at h
  · split at h
    · rename_i cs fz hb
      split at h
      · split at h
        · split at h
          · cases h; exact ⟨rfl, fun st' hs => by simp only [*, hs _ _ hb]⟩
          · cases h
        · split at h
          · cases h; exact ⟨rfl, fun st' hs => by simp only [*, hs _ _ hb]⟩
          · cases h
      · cases h
    · cases h
  · split at h
    · split at h
      · cases h; exact ⟨rfl, fun st' hs => by simp only [*]⟩
      · cases h
    · split at h
      · cases h; exact ⟨rfl, fun st' hs => by simp only [*]⟩
      · cases h
  · split at h
    · rename_i cs fz hb
      split at h
      · split at h
        · split at h
          · cases h; exact ⟨rfl, fun st' hs => by simp only [*, hs _ _ hb]⟩
          · cases h
        · split at h
          · cases h; exact ⟨rfl, fun st' hs => by simp only [*, hs _ _ hb]⟩
          · cases h
      · cases h
    · cases h
  · cases h
theorem app_st0 {i : AI} (hc : i.cl = .app) {rs : Option RS} {fr f : Fr} {st s : St} {p : Prop} (h : astep P i rs fr st = some (f, s, p)) : s.box = st.box ∧ ∀ st' : St, st'.row = st.row → astep P i rs fr st' = some (f, ⟨st'.box, s.row⟩, p) := by
  cases i <;> first | cases hc | skip
  case app d e b x y =>
    simp only [astep] at h ⊢
    split at h
    · rename_i t esz' l t2 esz2 m hx hy
      cases h
      refine ⟨rfl, fun st' hs => ?_⟩
      have h1 : appTag st' d t = appTag st d t := by cases t <;> simp [appTag, hs]
      have h2 : appRow st' d t = appRow st d t := by cases t <;> simp [appRow, hs]
      have h3 : OwnTag st' t = OwnTag st t := by cases t <;> simp [OwnTag, hs]
      simp only [h1, h2, h3]
    · cases h
  case callo d f args =>
    simp only [astep] at h ⊢
    split at h
    · split at h
      · cases h
        exact ⟨rfl, fun st' hs => by simp only [← hs]⟩
      · cases h
    · split at h
      · cases h
        exact ⟨rfl, fun st' hs => by simp only [← hs]⟩
      · cases h
    · cases h
theorem new_st0 {i : AI} (hc : i.cl = .new) {rs : Option RS} {fr f : Fr} {st s : St} {p : Prop} (h : astep P i rs fr st = some (f, s, p)) : ∃ d x, i.dst = some d ∧ st.box d = none ∧ s = ⟨upd st.box d (some x), st.row⟩ ∧ ∀ st' : St, st'.box d = none → astep P i rs fr st' = some (f, ⟨upd st'.box d (some x), st'.row⟩, p) := by
  cases i <;> first | cases hc | skip
  · rename_i d x
    simp only [astep] at h ⊢
    split at h
    · rename_i a hx hb
      split at h
      · rename_i cs hcs
        cases h
        exact ⟨d, (cs, false), rfl, hb, rfl, fun st' hs => by simp only [hx, hs, hcs]⟩
      · cases h
    · cases h
  · rename_i d z
    simp only [astep] at h ⊢
    split at h
    · rename_i hb
      cases h
      exact ⟨d, (z, false), rfl, hb, rfl, fun st' hs => by simp only [hs]⟩
    · cases h
theorem st_st0 {i : AI} (hc : i.cl = .st) {rs : Option RS} {fr f : Fr} {st s : St} {p : Prop} (h : astep P i rs fr st = some (f, s, p)) : ∃ id x y, st.box id = some y ∧ s = ⟨upd st.box id (some x), st.row⟩ ∧ ∀ st' : St, st'.box id = some y → astep P i rs fr st' = some (f, ⟨upd st'.box id (some x), st'.row⟩, p) := by
  cases i <;> first | cases hc | skip
  rename_i n x y
  simp only [astep] at h ⊢
  split at h
  · rename_i id esz k0 k c a hx hy
    split at h
    · rename_i cs old hcs hb
      split at h
      · rename_i new h1 h2
        cases h
        exact ⟨id, (_, false), (old, false), hb, rfl, fun st' hs => by simp only [hx, hy, hcs, hs, h1, h2]⟩
      · cases h
    · cases h
  · rename_i id off a hx hy
    split at h
    · rename_i cs old hcs hb
      split at h
      · rename_i new h1 h2
        cases h
        exact ⟨id, (new, false), (old, false), hb, rfl, fun st' hs => by simp only [hx, hy, hcs, hs, h1, h2]⟩
      · cases h
    · cases h
  · cases h
theorem not_still {i : AI} (h : i.cl ≠ .pure) (h2 : i.cl ≠ .ld) : i.still = false := by
  unfold AI.still
  split
  · rename_i e; exact absurd e h
  · rename_i e; exact absurd e h2
  · rfl
theorem pure_st {x : GI} (hc : x.i.cl = .pure) {rs : Option RS} {fr f : Fr} {st s : St} {p : Prop} (h : gstep P x rs fr st = some (f, s, p)) : s = st ∧ ∀ st', gstep P x rs fr st' = some (f, st', p) := by
  unfold gstep at h ⊢
  split at h
  · exact pure_st0 hc h
  · split at h
    · split at h
      · rename_i f2 s2 p2 ha
        obtain ⟨e, h2⟩ := pure_st0 hc ha
        split at h
        · rename_i v hv
          split at h
          · rename_i bs hnw hbs
            cases h
            refine ⟨rfl, fun st' => ?_⟩
            simp only [h2 st', hv, hnw, hbs]
          · cases h
        · cases h
      · cases h
    · cases h
  · cases h
theorem ld_st {x : GI} (hc : x.i.cl = .ld) {rs : Option RS} {fr f : Fr} {st s : St} {p : Prop} (h : gstep P x rs fr st = some (f, s, p)) : s = st ∧ ∀ st' : St, (∀ id x, st.box id = some x → st'.box id = some x) → gstep P x rs fr st' = some (f, st', p) := by
  unfold gstep at h ⊢
  split at h
  · exact ld_st0 hc h
  · split at h
    · split at h
      · rename_i f2 s2 p2 ha
        obtain ⟨e, h2⟩ := ld_st0 hc ha
        split at h
        · rename_i v hv
          split at h
          · rename_i bs hnw hbs
            cases h
            refine ⟨rfl, fun st' hs => ?_⟩
            simp only [h2 st' hs, hv, hnw, hbs]
          · cases h
        · cases h
      · cases h
    · cases h
  · cases h
theorem app_st {x : GI} (hc : x.i.cl = .app) {rs : Option RS} {fr f : Fr} {st s : St} {p : Prop} (h : gstep P x rs fr st = some (f, s, p)) : s.box = st.box ∧ ∀ st' : St, st'.row = st.row → gstep P x rs fr st' = some (f, ⟨st'.box, s.row⟩, p) := by
  have hns := not_still (i := x.i) (by rw [hc]; simp) (by rw [hc]; simp)
  unfold gstep at h ⊢
  split at h
  · exact app_st0 hc h
  · rw [hns] at h; simp at h
  · cases h
theorem new_st {x : GI} (hc : x.i.cl = .new) {rs : Option RS} {fr f : Fr} {st s : St} {p : Prop} (h : gstep P x rs fr st = some (f, s, p)) : ∃ d y, x.i.dst = some d ∧ st.box d = none ∧ s = ⟨upd st.box d (some y), st.row⟩ ∧ ∀ st' : St, st'.box d = none → gstep P x rs fr st' = some (f, ⟨upd st'.box d (some y), st'.row⟩, p) := by
  have hns := not_still (i := x.i) (by rw [hc]; simp) (by rw [hc]; simp)
  unfold gstep at h ⊢
  split at h
  · exact new_st0 hc h
  · rw [hns] at h; simp at h
  · cases h
theorem st_st {x : GI} (hc : x.i.cl = .st) {rs : Option RS} {fr f : Fr} {st s : St} {p : Prop} (h : gstep P x rs fr st = some (f, s, p)) : ∃ id u y, st.box id = some y ∧ s = ⟨upd st.box id (some u), st.row⟩ ∧ ∀ st' : St, st'.box id = some y → gstep P x rs fr st' = some (f, ⟨upd st'.box id (some u), st'.row⟩, p) := by
  have hns := not_still (i := x.i) (by rw [hc]; simp) (by rw [hc]; simp)
  unfold gstep at h ⊢
  split at h
  · exact st_st0 hc h
  · rw [hns] at h; simp at h
  · cases h
theorem upd_swap {α : Type} (f : Nat → α) {i j : Nat} (x y : α) (h : i ≠ j) : upd (upd f i x) j y = upd (upd f j y) i x := by
  funext s
  simp only [upd_at]
  by_cases h1 : s = j
  · subst h1; rw [if_pos rfl, if_pos rfl, if_neg (fun e => h e.symm)]
  · rw [if_neg h1, if_neg h1]
/-- two instructions at one frame: the second may be the first -/
theorem g_swap {i j : GI} (hok : okPair i.i.cl j.i.cl = true) (hd : ∀ d, i.i.dst = some d → j.i.dst ≠ some d) {ri rj : Option RS} {fr f g : Fr} {st s1 s2 : St} {p q : Prop} (h1 : gstep P i ri fr st = some (f, s1, p)) (h2 : gstep P j rj fr s1 = some (g, s2, q)) :
    ∃ s1', gstep P j rj fr st = some (g, s1', q) ∧ gstep P i ri fr s1' = some (f, s2, p) := by
  by_cases hip : i.i.cl = .pure
  · obtain ⟨e, hi⟩ := pure_st hip h1
    subst e
    exact ⟨s2, h2, hi s2⟩
  by_cases hjp : j.i.cl = .pure
  · obtain ⟨e, hj⟩ := pure_st hjp h2
    subst e
    exact ⟨st, hj st, h1⟩
  cases hic : i.i.cl <;> cases hjc : j.i.cl <;> rw [hic, hjc] at hok <;> first | cases hok | skip
  all_goals try exact absurd hic hip
  all_goals try exact absurd hjc hjp
  · -- ld, ld
    obtain ⟨e, hi⟩ := ld_st hic h1
    obtain ⟨e2, hj⟩ := ld_st hjc h2
    subst e e2
    exact ⟨_, h2, h1⟩
  · -- ld, app
    obtain ⟨e, hi⟩ := ld_st hic h1
    subst e
    obtain ⟨e2, hj⟩ := app_st hjc h2
    exact ⟨s2, h2, hi s2 fun id x hx => by rw [e2]; exact hx⟩
  · -- ld, new
    obtain ⟨e, hi⟩ := ld_st hic h1
    subst e
    obtain ⟨d, x, _, hb, e2, _⟩ := new_st hjc h2
    refine ⟨s2, h2, hi s2 fun id y hy => ?_⟩
    rw [e2]
    simp only [upd_at]
    rw [if_neg (fun e => by rw [e, hb] at hy; cases hy)]
    exact hy
  · -- app, ld
    obtain ⟨e, hi⟩ := app_st hic h1
    obtain ⟨e2, hj⟩ := ld_st hjc h2
    subst e2
    exact ⟨st, hj st fun id x hx => by rw [← e]; exact hx, h1⟩
  · -- app, new
    obtain ⟨e, hi⟩ := app_st hic h1
    obtain ⟨d, x, _, hb, e2, hj⟩ := new_st hjc h2
    exact ⟨_, hj st (by rw [← e]; exact hb), (hi ⟨upd st.box d (some x), st.row⟩ rfl).trans (by rw [e2, e])⟩
  · -- app, st
    obtain ⟨e, hi⟩ := app_st hic h1
    obtain ⟨id, x, y, hb, e2, hj⟩ := st_st hjc h2
    exact ⟨_, hj st (by rw [← e]; exact hb), (hi ⟨upd st.box id (some x), st.row⟩ rfl).trans (by rw [e2, e])⟩
  · -- new, app
    obtain ⟨d, x, _, hb, e, hi⟩ := new_st hic h1
    obtain ⟨e2, hj⟩ := app_st hjc h2
    refine ⟨_, hj st (by rw [e]), (hi ⟨st.box, s2.row⟩ hb).trans ?_⟩
    subst e
    obtain ⟨b2, r2⟩ := s2
    simp only at e2
    rw [e2]
  · -- new, new
    obtain ⟨d, x, hdi, hb, e, hi⟩ := new_st hic h1
    obtain ⟨d', x', hdj, hb', e2, hj⟩ := new_st hjc h2
    have hne : d ≠ d' := fun e' => hd d hdi (by rw [hdj, e'])
    subst e
    simp only [upd_at] at hb'
    rw [if_neg (fun e' => hne e'.symm)] at hb'
    refine ⟨_, hj st hb', (hi ⟨upd st.box d' (some x'), st.row⟩ (by simp only [upd_at]; rw [if_neg hne]; exact hb)).trans ?_⟩
    rw [e2]
    simp only [upd_swap st.box (some x) (some x') hne]
  · -- st, app
    obtain ⟨id, x, y, hb, e, hi⟩ := st_st hic h1
    obtain ⟨e2, hj⟩ := app_st hjc h2
    refine ⟨_, hj st (by rw [e]), (hi ⟨st.box, s2.row⟩ hb).trans ?_⟩
    subst e
    obtain ⟨b2, r2⟩ := s2
    simp only at e2
    rw [e2]
  · -- st, new
    obtain ⟨id, x, y, hb, e, hi⟩ := st_st hic h1
    obtain ⟨d', x', hdj, hb', e2, hj⟩ := new_st hjc h2
    have hne : id ≠ d' := fun e' => by
      subst e
      simp only [upd_at] at hb'
      rw [if_pos e'.symm] at hb'
      cases hb'
    subst e
    simp only [upd_at] at hb'
    rw [if_neg (fun e' => hne e'.symm)] at hb'
    refine ⟨_, hj st hb', (hi ⟨upd st.box d' (some x'), st.row⟩ (by simp only [upd_at]; rw [if_neg hne]; exact hb)).trans ?_⟩
    rw [e2]
    simp only [upd_swap st.box (some x) (some x') hne]
end
end Go.Proofs.YtpcddcfpbohogaaDoor
