/-
  The texts that the claim wants, one behind the other: part 6.
-/
import Derived.Test.YtgidajjjpeboeaaGreatDoorS5
set_option linter.unusedSimpArgs false
set_option linter.unusedVariables false
namespace Go.Proofs.YtgidajjjpeboeaaGreatDoor
open Go.RowKit
def GI.looks (x : GI) : List Nat := x.i.reads ++ match x.g with
 | some (s, _) => [s]
 | none => []
def updO (fr : Fr) (d : Option Nat) (v : Option AV) : Fr :=
 match d with
 | some d => upd fr d v
 | none => fr
theorem updO_comm (fr : Fr) {d d' : Option Nat} (v v' : Option AV) (h : ∀ x, d = some x → d' ≠ some x) : updO (updO fr d v) d' v' = updO (updO fr d' v') d v := by
 cases d with
 | none => cases d' <;> rfl
 | some a => cases d' with
  | none => rfl
  | some b =>
   have hne : a ≠ b := fun e => h a rfl (by rw [e])
   funext s
   simp only [updO, upd_at]
   by_cases h1 : s = b
   ·subst h1; rw [if_pos rfl, if_pos rfl, if_neg (fun e => hne e.symm)]
   ·rw [if_neg h1, if_neg h1]
theorem ev_upd {fr : Fr} {d : Nat} (v : Option AV) {x : Opd} (h : d ∉ x.slots) : x.ev (upd fr d v) = x.ev fr := by
 cases x with
 | s n => exact upd_ne _ _ (fun e => h (by simp [Opd.slots, e]))
 | k a => rfl
theorem evs_upd {fr : Fr} {d : Nat} (v : Option AV) : ∀ {l : List Opd}, d ∉ l.flatMap Opd.slots → evs (upd fr d v) l = evs fr l
 | [], _ => rfl
 | x :: l, h => by
  simp only [List.flatMap_cons, List.mem_append, not_or] at h
  simp only [evs, ev_upd v h.1, evs_upd v h.2]
theorem afill_upd {fr : Fr} {d : Nat} (v : Option AV) : ∀ {ps : List (Nat × Nat × Opd)} {z : List AV}, d ∉ ps.flatMap (fun x => x.2.2.slots) → afill (upd fr d v) z ps = afill fr z ps
 | [], _, _ => rfl
 | (off, size, x) :: l, z, h => by
  simp only [List.flatMap_cons, List.mem_append, not_or] at h
  simp only [afill, ev_upd v h.1]
  split
  ·split
   ·split
    ·split
     ·exact afill_upd v h.2
     ·rfl
    ·rfl
   ·rfl
  ·rfl
theorem freeze_upd {fr : Fr} {d : Nat} (v : Option AV) : ∀ {l : List Opd} {st : St}, d ∉ l.flatMap Opd.slots → freeze st (upd fr d v) l = freeze st fr l
 | [], _, _ => rfl
 | x :: l, st, h => by
  simp only [List.flatMap_cons, List.mem_append, not_or] at h
  simp only [freeze, ev_upd v h.1]
  have ih := fun st => freeze_upd (fr := fr) v (l := l) (st := st) h.2
  simp only [ih]
theorem intOfOpt_upd {fr : Fr} {d : Nat} (v : Option AV) {k : Int} {x : Option Opd} (h : d ∉ optSlots x) : intOfOpt (upd fr d v) k x = intOfOpt fr k x := by
 cases x with
 | none => rfl
 | some x => simp only [intOfOpt, ev_upd v (show d ∉ x.slots from h)]
section
variable {P : Program}
theorem put1_upd (fr : Fr) {d d' : Nat} (v : Option AV) (a : AV) (h : d' ≠ d) : put1 (upd fr d v) d' a = upd (put1 fr d' a) d v := by
 have := updO_comm fr (d := some d) (d' := some d') v (some a) (fun x hx e => h (by cases hx; cases e; rfl))
 exact this
set_option maxHeartbeats 1000000 in
theorem astep_fc (i : AI) (rs : Option RS) (fr : Fr) (st : St) {d : Nat} (v : Option AV) (hr : d ∉ i.reads) (hd : i.dst ≠ some d) (hc : i.cl ≠ .hard) : astep P i rs (upd fr d v) st = (astep P i rs fr st).map fun r => (upd r.1 d v, r.2) := by
 cases i <;> simp only [AI.reads, AI.dst, List.mem_append, not_or, ne_eq, Option.some.injEq] at hr hd
 case mov d' x =>
  simp only [astep, ev_upd v hr]
  cases x.ev fr <;> simp [put1_upd fr v _ hd]
 case pick d' c x y =>
  simp only [astep, ev_upd v hr.1, ev_upd v hr.2.1, ev_upd v hr.2.2]
  split
  ·split
   ·split <;> first | rfl | simp [put1_upd fr v _ hd]
   ·split
    ·rw [ev_upd v hr.2.1]
     split <;> first | rfl | simp [put1_upd fr v _ hd]
    ·rfl
  ·rfl
 case box d' x =>
  simp only [astep, ev_upd v hr]
  split
  ·split <;> simp [put1_upd fr v _ hd]
  ·rfl
 case alloc d' z =>
  simp only [astep]
  split <;> simp [put1_upd fr v _ hd]
 case ld d' n agg x =>
  simp only [astep, ev_upd v hr]
  split
  ·split
   ·split
    ·split
     ·split <;> simp [put1_upd fr v _ hd]
     ·split <;> simp [put1_upd fr v _ hd]
    ·rfl
   ·rfl
  ·split
   ·split <;> simp [put1_upd fr v _ hd]
   ·split <;> simp [put1_upd fr v _ hd]
  ·split
   ·split
    ·split
     ·split <;> simp [put1_upd fr v _ hd]
     ·split <;> simp [put1_upd fr v _ hd]
    ·rfl
   ·rfl
  ·split
   ·split
    ·split
     ·split <;> simp [put1_upd fr v _ hd]
     ·split <;> simp [put1_upd fr v _ hd]
    ·rfl
   ·rfl
  ·rfl
 case st n x y =>
  simp only [astep, ev_upd v hr.1, ev_upd v hr.2]
  split
  ·split
   ·split <;> rfl
   ·rfl
  ·split
   ·split <;> rfl
   ·rfl
  ·split
   ·split <;> rfl
   ·rfl
  ·rfl
 case off d' k x =>
  simp only [astep, ev_upd v hr]
  split
  ·simp [put1_upd fr v _ hd]
  ·split <;> simp [put1_upd fr v _ hd]
  ·simp [put1_upd fr v _ hd]
  ·split <;> simp [put1_upd fr v _ hd]
  ·rfl
 case b2s d' x =>
  simp only [astep, ev_upd v hr]
  split
  ·split <;> simp [put1_upd fr v _ hd]
  ·rfl
 case offi d' n e x y =>
  simp only [astep, ev_upd v hr.1, ev_upd v hr.2]
  split
  ·simp [put1_upd fr v _ hd]
  ·split <;> simp [put1_upd fr v _ hd]
  ·rfl
 case idx d' e x y =>
  simp only [astep, ev_upd v hr.1, ev_upd v hr.2]
  split <;> simp [put1_upd fr v _ hd]
 case bin d' op bt x y =>
  simp only [astep, ev_upd v hr.1, ev_upd v hr.2]
  split
  ·split <;> simp [put1_upd fr v _ hd]
  ·rfl
 case un d' op x =>
  simp only [astep, ev_upd v hr]
  split
  ·split <;> simp [put1_upd fr v _ hd]
  ·rfl
 case build d' z ps =>
  simp only [astep, afill_upd v hr]
  split <;> simp [put1_upd fr v _ hd]
 case bsl d' n e z ps =>
  simp only [astep, afill_upd v hr]
  split
  ·split <;> simp [put1_upd fr v _ hd]
  ·rfl
 case len d' s x =>
  simp only [astep, ev_upd v hr]
  split <;> simp [put1_upd fr v _ hd]
 case app d' e b x y =>
  simp only [astep, ev_upd v hr.1, ev_upd v hr.2]
  split <;> simp [put1_upd fr v _ hd]
 case ext d' k x =>
  simp only [astep, ev_upd v hr]
  split
  ·split <;> simp [put1_upd fr v _ hd]
  ·rfl
 case call d' f args =>
  simp only [astep, ev_upd v hr.1, evs_upd v hr.2]
  split
  ·split
   ·cases d' with
    | none => rfl
    | some d' => simp [put1_upd fr v _ (show d' ≠ d from fun e => hd (by rw [e]))]
   ·rfl
  ·split
   ·rename_i d2 _
    have hne : d2 ≠ d := fun e => hd (by rw [e])
    rw [upd_ne fr v hne]
    split
    ·simp [put1_upd fr v _ hne]
    ·rfl
   ·rfl
  ·rfl
 case callo d' f args =>
  simp only [astep, ev_upd v hr.1, evs_upd v hr.2]
  split
  ·split
   ·cases d' with
    | none => rfl
    | some d' => simp [put1_upd fr v _ (show d' ≠ d from fun e => hd (by rw [e]))]
   ·rfl
  ·split
   ·rename_i d2 _
    have hne : d2 ≠ d := fun e => hd (by rw [e])
    simp [put1_upd fr v _ hne]
   ·rfl
  ·rfl
 case callr d' f args =>
  simp only [astep, ev_upd v hr.1, evs_upd v hr.2]
  split
  ·split
   ·rename_i d2 _ _
    have hne : d2 ≠ d := fun e => hd (by rw [e])
    rw [upd_ne fr v hne]
    split
    ·simp [put1_upd fr v _ hne]
    ·rfl
   ·rfl
  ·split
   ·rename_i d2 _
    have hne : d2 ≠ d := fun e => hd (by rw [e])
    rw [upd_ne fr v hne]
    split
    ·simp [put1_upd fr v _ hne]
    ·rfl
   ·rfl
  ·split
   ·cases d' with
    | none => rfl
    | some d' => simp [put1_upd fr v _ (show d' ≠ d from fun e => hd (by rw [e]))]
   ·rfl
  ·split
   ·cases d' with
    | none => rfl
    | some d' => simp [put1_upd fr v _ (show d' ≠ d from fun e => hd (by rw [e]))]
   ·rfl
  ·split
   ·rename_i d2 _
    have hne : d2 ≠ d := fun e => hd (by rw [e])
    rw [upd_ne fr v hne]
    split
    ·simp [put1_upd fr v _ hne]
    ·rfl
   ·rfl
  ·rfl
 case appr d' e b x y =>
  have hne : d' ≠ d := fun e => hd (by rw [e])
  simp only [astep, ev_upd v hr.1, ev_upd v hr.2]
  rw [upd_ne fr v hne]
  split
  ·split
   ·simp [put1_upd fr v _ hne]
   ·rfl
  ·split
   ·simp [put1_upd fr v _ hne]
   ·rfl
  ·rfl
 case calls d' f args => exact absurd rfl hc
 case mop o d' args => exact absurd rfl hc
 case rng t d' x => exact absurd rfl hc
 case nxt d' x => exact absurd rfl hc
 case ent d' x => exact absurd rfl hc
 case sub d' s e x lo hi =>
  simp only [astep, ev_upd v hr.1, intOfOpt_upd v hr.2.1, intOfOpt_upd v hr.2.2]
  split
  ·split <;> simp [put1_upd fr v _ hd]
  ·split <;> simp [put1_upd fr v _ hd]
  ·rfl
 case bidx d' x y =>
  simp only [astep, ev_upd v hr.1, ev_upd v hr.2]
  split <;> simp [put1_upd fr v _ hd]
 case mx d' x y =>
  simp only [astep, ev_upd v hr.1, ev_upd v hr.2]
  split <;> simp [put1_upd fr v _ hd]
 case conv d' k x =>
  simp only [astep, ev_upd v hr]
  split <;> simp [put1_upd fr v _ hd]
 case mkfn d' f cap =>
  simp only [astep, freeze_upd v hr]
  split <;> simp [put1_upd fr v _ hd]
 case eqs d' ng t x y =>
  simp only [astep, ev_upd v hr.1, ev_upd v hr.2]
  split
  ·split <;> simp [put1_upd fr v _ hd]
  ·split
   ·split <;> simp [put1_upd fr v _ hd]
   ·rfl
  ·split <;> simp [put1_upd fr v _ hd]
  ·rfl
theorem unw_sub {i : AI} {s : Nat} (h : s ∈ i.unw) : s ∈ i.reads := by
 cases i <;> first
  | exact h
  | exact List.mem_append_left _ h
theorem unwr_upd (fr : Fr) {d : Nat} (v : Option AV) {l : List Nat} (h : d ∉ l) : unwr (upd fr d v) l = upd (unwr fr l) d v := by
 funext s
 by_cases hs : s = d
 ·subst hs
  have hm : memN s l = false := by
   cases hm : memN s l with
   | false => rfl
   | true => exact absurd (memN_iff.1 hm) h
  simp only [unwr, hm, upd_same]
 ·simp only [unwr, upd_ne _ v hs]
theorem availB_upd (fr : Fr) {d : Nat} (v : Option AV) : ∀ {l : List Nat}, d ∉ l → availB (upd fr d v) l = availB fr l
 | [], _ => rfl
 | s :: l, h => by
  simp only [List.mem_cons, not_or] at h
  simp only [availB, upd_ne fr v (show s ≠ d from fun e => h.1 e.symm), availB_upd fr v h.2]
theorem ctx_upd (x : GI) (fr : Fr) {d : Nat} (v : Option AV) (hr : d ∉ x.looks) : x.ctx (upd fr d v) = x.ctx fr := by
 obtain ⟨g, i⟩ := x
 cases g with
 | none => rfl
 | some g =>
  obtain ⟨s, b⟩ := g
  simp only [GI.looks, List.mem_append, not_or] at hr
  have : d ≠ s := by have := hr.2; simp at this; exact this
  simp only [GI.ctx, upd_ne fr v (show s ≠ d from fun e => this e.symm)]
theorem gstep_fc (x : GI) (rs : Option RS) (fr : Fr) (st : St) {d : Nat} (v : Option AV) (hr : d ∉ x.looks) (hd : x.i.dst ≠ some d) (hc : x.i.cl ≠ .hard) : gstep P x rs (upd fr d v) st = (gstep P x rs fr st).map fun r => (upd r.1 d v, r.2) := by
 have hri : d ∉ x.i.reads := fun h => hr (List.mem_append_left _ h)
 have hru : d ∉ x.i.unw := fun h => hri (unw_sub h)
 unfold gstep
 rw [ctx_upd x fr v hr]
 split
 ·exact astep_fc x.i rs fr st v hri hd hc
 ·rename_i c _
  split
  ·rename_i d' hst hdst
   have hdd : d' ≠ d := fun e => hd (by rw [hdst, e])
   rw [unwr_upd fr v hru, astep_fc x.i rs _ st v hri hd hc, availB_upd fr v hru]
   cases astep P x.i rs (unwr fr x.i.unw) st with
   | none => rfl
   | some r =>
    obtain ⟨f2, s2, p2⟩ := r
    simp only [Option.map_some, upd_ne f2 v hdd]
    split
    ·rename_i u hu
     split
     ·rename_i bs hnw hbs
      simp only [Option.map_some, Option.some.injEq, Prod.mk.injEq, and_true]
      exact updO_comm fr (d := some d) (d' := some d') v (some (.when c u)) (fun x hx e => hdd (by cases hx; cases e; rfl))
     ·rfl
    ·rfl
  ·split
   ·rename_i hh; exact absurd hh hc
   ·rfl
 ·rfl
def okPair : Cl → Cl → Bool
 | .hard, _ => false
 | _, .hard => false
 | .pure, _ => true
 | _, .pure => true
 | .ld, .ld | .ld, .app | .ld, .new => true
 | .app, .ld | .app, .new | .app, .st => true
 | .new, .app | .new, .new => true
 | .st, .app | .st, .new => true
 | _, _ => false
theorem okPair_hard {a b : Cl} (h : okPair a b = true) : a ≠ .hard ∧ b ≠ .hard := by
 cases a <;> cases b <;> first
  | (cases h; done)
  | (refine ⟨?_, ?_⟩ <;> (intro e; cases e))
theorem pure_st0 {i : AI} (hc : i.cl = .pure) {rs : Option RS} {fr f : Fr} {st s : St} {p : Prop} (h : astep P i rs fr st = some (f, s, p)) : s = st ∧ ∀ st', astep P i rs fr st' = some (f, st', p) := by
 cases i <;> first | cases hc | skip
 all_goals
  simp only [astep] at h ⊢
  (repeat' (split at h)) <;> first
   | (cases h; exact ⟨rfl, fun st' => rfl⟩)
   | (cases h; done)
   | (cases h; exact ⟨rfl, fun st' => by simp only [*]⟩)
theorem ld_st0 {i : AI} (hc : i.cl = .ld) {rs : Option RS} {fr f : Fr} {st s : St} {p : Prop} (h : astep P i rs fr st = some (f, s, p)) : s = st ∧ ∀ st' : St, (∀ id x, st.box id = some x → st'.box id = some x) → astep P i rs fr st' = some (f, st', p) := by
 cases i <;> first | cases hc | skip
 rename_i d n agg x
 simp only [astep] at h ⊢
 split at h
 ·split at h
  ·rename_i cs fz hb
   split at h
   ·split at h
    ·split at h
     ·cases h; exact ⟨rfl, fun st' hs => by simp only [*, cbox_of (cbox_some hb).2 (hs _ _ (cbox_some hb).1)]⟩
     ·cases h
    ·split at h
     ·cases h; exact ⟨rfl, fun st' hs => by simp only [*, cbox_of (cbox_some hb).2 (hs _ _ (cbox_some hb).1)]⟩
     ·cases h
   ·cases h
  ·cases h
 ·split at h
  ·split at h
   ·cases h; exact ⟨rfl, fun st' hs => by simp only [*]⟩
   ·cases h
  ·split at h
   ·cases h; exact ⟨rfl, fun st' hs => by simp only [*]⟩
   ·cases h
 ·split at h
  ·rename_i cs fz hb
   split at h
   ·split at h
    ·split at h
     ·cases h; exact ⟨rfl, fun st' hs => by simp only [*, cbox_of (cbox_some hb).2 (hs _ _ (cbox_some hb).1)]⟩
     ·cases h
    ·split at h
     ·cases h; exact ⟨rfl, fun st' hs => by simp only [*, cbox_of (cbox_some hb).2 (hs _ _ (cbox_some hb).1)]⟩
     ·cases h
   ·cases h
  ·cases h
 ·split at h
  ·rename_i cs fz hb
   split at h
   ·split at h
    ·split at h
     ·cases h; exact ⟨rfl, fun st' hs => by simp only [*, cbox_of (cbox_some hb).2 (hs _ _ (cbox_some hb).1)]⟩
     ·cases h
    ·split at h
     ·cases h; exact ⟨rfl, fun st' hs => by simp only [*, cbox_of (cbox_some hb).2 (hs _ _ (cbox_some hb).1)]⟩
     ·cases h
   ·cases h
  ·cases h
 ·cases h
theorem app_st0 {i : AI} (hc : i.cl = .app) {rs : Option RS} {fr f : Fr} {st s : St} {p : Prop} (h : astep P i rs fr st = some (f, s, p)) : s.box = st.box ∧ ∀ st' : St, st'.row = st.row → astep P i rs fr st' = some (f, ⟨st'.box, s.row⟩, p) := by
 cases i <;> first | cases hc | skip
 case app d e b x y =>
  simp only [astep] at h ⊢
  split at h
  ·rename_i t esz' l t2 esz2 m hx hy
   cases h
   refine ⟨rfl, fun st' hs => ?_⟩
   have h1 : appTag st' d t = appTag st d t := by cases t <;> simp [appTag, hs]
   have h2 : appRow st' d t = appRow st d t := by cases t <;> simp [appRow, hs]
   have h3 : OwnTag st' t = OwnTag st t := by cases t <;> simp [OwnTag, hs]
   simp only [h1, h2, h3]
  ·cases h
 case callo d f args =>
  simp only [astep] at h ⊢
  split at h
  ·split at h
   ·cases h
    exact ⟨rfl, fun st' hs => by simp only [← hs]⟩
   ·cases h
  ·split at h
   ·cases h
    exact ⟨rfl, fun st' hs => by simp only [← hs]⟩
   ·cases h
  ·cases h
theorem new_st0 {i : AI} (hc : i.cl = .new) {rs : Option RS} {fr f : Fr} {st s : St} {p : Prop} (h : astep P i rs fr st = some (f, s, p)) : ∃ d x, i.dst = some d ∧ st.box d = none ∧ s = ⟨upd st.box d (some x), st.row⟩ ∧ ∀ st' : St, st'.box d = none → astep P i rs fr st' = some (f, ⟨upd st'.box d (some x), st'.row⟩, p) := by
 cases i <;> first | cases hc | skip
 ·rename_i d x
  simp only [astep] at h ⊢
  split at h
  ·rename_i a hx hb
   split at h
   ·rename_i cs hcs
    cases h
    exact ⟨d, (cs, false), rfl, hb, rfl, fun st' hs => by simp only [hx, hs, hcs]⟩
   ·cases h
  ·cases h
 ·rename_i d z
  simp only [astep] at h ⊢
  split at h
  ·rename_i hb
   cases h
   exact ⟨d, (z, false), rfl, hb, rfl, fun st' hs => by simp only [hs]⟩
  ·cases h
theorem st_st0 {i : AI} (hc : i.cl = .st) {rs : Option RS} {fr f : Fr} {st s : St} {p : Prop} (h : astep P i rs fr st = some (f, s, p)) : ∃ id x y, st.box id = some y ∧ s = ⟨upd st.box id (some x), st.row⟩ ∧ ∀ st' : St, st'.box id = some y → astep P i rs fr st' = some (f, ⟨upd st'.box id (some x), st'.row⟩, p) := by
 cases i <;> first | cases hc | skip
 rename_i n x y
 simp only [astep] at h ⊢
 split at h
 ·rename_i id esz k0 k c a hx hy
  split at h
  ·rename_i cs old hcs hb
   split at h
   ·rename_i new h1 h2
    cases h
    exact ⟨id, (_, false), (old, false), (cbox_some hb).1, rfl, fun st' hs => by simp only [hx, hy, hcs, cbox_of (cbox_some hb).2 hs, h1, h2]⟩
   ·cases h
  ·cases h
 ·rename_i id off a hx hy
  split at h
  ·rename_i cs old hcs hb
   split at h
   ·rename_i new h1 h2
    cases h
    exact ⟨id, (new, false), (old, false), (cbox_some hb).1, rfl, fun st' hs => by simp only [hx, hy, hcs, cbox_of (cbox_some hb).2 hs, h1, h2]⟩
   ·cases h
  ·cases h
 ·rename_i id off a hx hy
  split at h
  ·rename_i cs old hcs hb
   split at h
   ·rename_i new h1 h2
    cases h
    exact ⟨id, (new, false), (old, false), (cbox_some hb).1, rfl, fun st' hs => by simp only [hx, hy, hcs, cbox_of (cbox_some hb).2 hs, h1, h2]⟩
   ·cases h
  ·cases h
 ·cases h
theorem not_still {i : AI} (h : i.cl ≠ .pure) (h2 : i.cl ≠ .ld) : i.still = false := by
 unfold AI.still
 split
 ·rename_i e; exact absurd e h
 ·rename_i e; exact absurd e h2
 ·rfl
theorem pure_st {x : GI} (hc : x.i.cl = .pure) {rs : Option RS} {fr f : Fr} {st s : St} {p : Prop} (h : gstep P x rs fr st = some (f, s, p)) : s = st ∧ ∀ st', gstep P x rs fr st' = some (f, st', p) := by
 unfold gstep at h ⊢
 split at h
 ·exact pure_st0 hc h
 ·split at h
  ·split at h
   ·rename_i f2 s2 p2 ha
    obtain ⟨e, h2⟩ := pure_st0 hc ha
    split at h
    ·rename_i v hv
     split at h
     ·rename_i bs hnw hbs
      cases h
      refine ⟨rfl, fun st' => ?_⟩
      simp only [h2 st', hv, hnw, hbs]
     ·cases h
    ·cases h
   ·cases h
  ·rw [hc] at h; cases h
 ·cases h
theorem ld_st {x : GI} (hc : x.i.cl = .ld) {rs : Option RS} {fr f : Fr} {st s : St} {p : Prop} (h : gstep P x rs fr st = some (f, s, p)) : s = st ∧ ∀ st' : St, (∀ id x, st.box id = some x → st'.box id = some x) → gstep P x rs fr st' = some (f, st', p) := by
 unfold gstep at h ⊢
 split at h
 ·exact ld_st0 hc h
 ·split at h
  ·split at h
   ·rename_i f2 s2 p2 ha
    obtain ⟨e, h2⟩ := ld_st0 hc ha
    split at h
    ·rename_i v hv
     split at h
     ·rename_i bs hnw hbs
      cases h
      refine ⟨rfl, fun st' hs => ?_⟩
      simp only [h2 st' hs, hv, hnw, hbs]
     ·cases h
    ·cases h
   ·cases h
  ·rw [hc] at h; cases h
 ·cases h
theorem app_st {x : GI} (hc : x.i.cl = .app) {rs : Option RS} {fr f : Fr} {st s : St} {p : Prop} (h : gstep P x rs fr st = some (f, s, p)) : s.box = st.box ∧ ∀ st' : St, st'.row = st.row → gstep P x rs fr st' = some (f, ⟨st'.box, s.row⟩, p) := by
 have hns := not_still (i := x.i) (by rw [hc]; simp) (by rw [hc]; simp)
 unfold gstep at h ⊢
 split at h
 ·exact app_st0 hc h
 ·rw [hns, hc] at h; simp at h
 ·cases h
theorem new_st {x : GI} (hc : x.i.cl = .new) {rs : Option RS} {fr f : Fr} {st s : St} {p : Prop} (h : gstep P x rs fr st = some (f, s, p)) : ∃ d y, x.i.dst = some d ∧ st.box d = none ∧ s = ⟨upd st.box d (some y), st.row⟩ ∧ ∀ st' : St, st'.box d = none → gstep P x rs fr st' = some (f, ⟨upd st'.box d (some y), st'.row⟩, p) := by
 have hns := not_still (i := x.i) (by rw [hc]; simp) (by rw [hc]; simp)
 unfold gstep at h ⊢
 split at h
 ·exact new_st0 hc h
 ·rw [hns, hc] at h; simp at h
 ·cases h
theorem st_st {x : GI} (hc : x.i.cl = .st) {rs : Option RS} {fr f : Fr} {st s : St} {p : Prop} (h : gstep P x rs fr st = some (f, s, p)) : ∃ id u y, st.box id = some y ∧ s = ⟨upd st.box id (some u), st.row⟩ ∧ ∀ st' : St, st'.box id = some y → gstep P x rs fr st' = some (f, ⟨upd st'.box id (some u), st'.row⟩, p) := by
 have hns := not_still (i := x.i) (by rw [hc]; simp) (by rw [hc]; simp)
 unfold gstep at h ⊢
 split at h
 ·exact st_st0 hc h
 ·rw [hns, hc] at h; simp at h
 ·cases h
theorem upd_swap {α : Type} (f : Nat → α) {i j : Nat} (x y : α) (h : i ≠ j) : upd (upd f i x) j y = upd (upd f j y) i x := by
 funext s
 simp only [upd_at]
 by_cases h1 : s = j
 ·subst h1; rw [if_pos rfl, if_pos rfl, if_neg (fun e => h e.symm)]
 ·rw [if_neg h1, if_neg h1]
theorem g_swap {i j : GI} (hok : okPair i.i.cl j.i.cl = true) (hd : ∀ d, i.i.dst = some d → j.i.dst ≠ some d) {ri rj : Option RS} {fr f g : Fr} {st s1 s2 : St} {p q : Prop} (h1 : gstep P i ri fr st = some (f, s1, p)) (h2 : gstep P j rj fr s1 = some (g, s2, q)) :
  ∃ s1', gstep P j rj fr st = some (g, s1', q) ∧ gstep P i ri fr s1' = some (f, s2, p) := by
 by_cases hip : i.i.cl = .pure
 ·obtain ⟨e, hi⟩ := pure_st hip h1
  subst e
  exact ⟨s2, h2, hi s2⟩
 by_cases hjp : j.i.cl = .pure
 ·obtain ⟨e, hj⟩ := pure_st hjp h2
  subst e
  exact ⟨st, hj st, h1⟩
 cases hic : i.i.cl <;> cases hjc : j.i.cl <;> rw [hic, hjc] at hok <;> first | cases hok | skip
 all_goals try exact absurd hic hip
 all_goals try exact absurd hjc hjp
 ·-- ld, ld
  obtain ⟨e, hi⟩ := ld_st hic h1
  obtain ⟨e2, hj⟩ := ld_st hjc h2
  subst e e2
  exact ⟨_, h2, h1⟩
 ·-- ld, app
  obtain ⟨e, hi⟩ := ld_st hic h1
  subst e
  obtain ⟨e2, hj⟩ := app_st hjc h2
  exact ⟨s2, h2, hi s2 fun id x hx => by rw [e2]; exact hx⟩
 ·-- ld, new
  obtain ⟨e, hi⟩ := ld_st hic h1
  subst e
  obtain ⟨d, x, _, hb, e2, _⟩ := new_st hjc h2
  refine ⟨s2, h2, hi s2 fun id y hy => ?_⟩
  rw [e2]
  simp only [upd_at]
  rw [if_neg (fun e => by rw [e, hb] at hy; cases hy)]
  exact hy
 ·-- app, ld
  obtain ⟨e, hi⟩ := app_st hic h1
  obtain ⟨e2, hj⟩ := ld_st hjc h2
  subst e2
  exact ⟨st, hj st fun id x hx => by rw [← e]; exact hx, h1⟩
 ·-- app, new
  obtain ⟨e, hi⟩ := app_st hic h1
  obtain ⟨d, x, _, hb, e2, hj⟩ := new_st hjc h2
  exact ⟨_, hj st (by rw [← e]; exact hb), (hi ⟨upd st.box d (some x), st.row⟩ rfl).trans (by rw [e2, e])⟩
 ·-- app, st
  obtain ⟨e, hi⟩ := app_st hic h1
  obtain ⟨id, x, y, hb, e2, hj⟩ := st_st hjc h2
  exact ⟨_, hj st (by rw [← e]; exact hb), (hi ⟨upd st.box id (some x), st.row⟩ rfl).trans (by rw [e2, e])⟩
 ·-- new, app
  obtain ⟨d, x, _, hb, e, hi⟩ := new_st hic h1
  obtain ⟨e2, hj⟩ := app_st hjc h2
  refine ⟨_, hj st (by rw [e]), (hi ⟨st.box, s2.row⟩ hb).trans ?_⟩
  subst e
  obtain ⟨b2, r2⟩ := s2
  simp only at e2
  rw [e2]
 ·-- new, new
  obtain ⟨d, x, hdi, hb, e, hi⟩ := new_st hic h1
  obtain ⟨d', x', hdj, hb', e2, hj⟩ := new_st hjc h2
  have hne : d ≠ d' := fun e' => hd d hdi (by rw [hdj, e'])
  subst e
  simp only [upd_at] at hb'
  rw [if_neg (fun e' => hne e'.symm)] at hb'
  refine ⟨_, hj st hb', (hi ⟨upd st.box d' (some x'), st.row⟩ (by simp only [upd_at]; rw [if_neg hne]; exact hb)).trans ?_⟩
  rw [e2]
  simp only [upd_swap st.box (some x) (some x') hne]
 ·-- st, app
  obtain ⟨id, x, y, hb, e, hi⟩ := st_st hic h1
  obtain ⟨e2, hj⟩ := app_st hjc h2
  refine ⟨_, hj st (by rw [e]), (hi ⟨st.box, s2.row⟩ hb).trans ?_⟩
  subst e
  obtain ⟨b2, r2⟩ := s2
  simp only at e2
  rw [e2]
 ·-- st, new
  obtain ⟨id, x, y, hb, e, hi⟩ := st_st hic h1
  obtain ⟨d', x', hdj, hb', e2, hj⟩ := new_st hjc h2
  have hne : id ≠ d' := fun e' => by
   subst e
   simp only [upd_at] at hb'
   rw [if_pos e'.symm] at hb'
   cases hb'
  subst e
  simp only [upd_at] at hb'
  rw [if_neg (fun e' => hne e'.symm)] at hb'
  refine ⟨_, hj st hb', (hi ⟨upd st.box d' (some x'), st.row⟩ (by simp only [upd_at]; rw [if_neg hne]; exact hb)).trans ?_⟩
  rw [e2]
  simp only [upd_swap st.box (some x) (some x') hne]
end
end Go.Proofs.YtgidajjjpeboeaaGreatDoor
/-
 The abstract walk: a region that draws its order; a function's code as instructions.
-/
namespace Go.Proofs.YtgidajjjpeboeaaGreatDoor
open Go.RowKit
section
variable {P : Program} {mu : List Nat}
theorem astep_fs {i : AI} {rs : Option RS} {fr f : Fr} {st s : St} {p : Prop} (h : astep P i rs fr st = some (f, s, p)) (hc : i.cl ≠ .hard) : ∃ v, f = updO fr i.dst v := by
 cases i <;> first | exact absurd rfl hc | skip
 all_goals
  simp only [astep] at h
  (repeat' (split at h)) <;> first
   | (cases h; exact ⟨some _, rfl⟩)
   | (cases h; exact ⟨none, rfl⟩)
   | (cases h; done)
   | skip
def apartA (x y : GI) : Bool :=
 (match x.i.dst with
  | some d => !(y.looks.contains d) && !(dstEq y.i.dst (some d))
  | none => true) &&
 (match y.i.dst with
  | some d => !(x.looks.contains d)
  | none => true)
def indep (x y : GI) : Bool := apartA x y && okPair x.i.cl y.i.cl
theorem dstEq_self (x : Option Nat) : dstEq x x = true := by
 cases x with
 | none => rfl
 | some a => exact Nat.beq_refl a
theorem apartA_spec {x y : GI} (h : apartA x y = true) : (∀ d, x.i.dst = some d → d ∉ y.looks) ∧ (∀ d, x.i.dst = some d → y.i.dst ≠ some d) ∧ ∀ d, y.i.dst = some d → d ∉ x.looks := by
 unfold apartA at h
 rw [Bool.and_eq_true] at h
 refine ⟨fun d hd => ?_, fun d hd e => ?_, fun d hd => ?_⟩
 ·have h1 := h.1
  rw [hd] at h1
  simp only [Bool.and_eq_true, Bool.not_eq_true'] at h1
  simpa using h1.1
 ·have h1 := h.1
  rw [hd, e] at h1
  simp only [Bool.and_eq_true, Bool.not_eq_true', dstEq_self] at h1
  cases h1.2
 ·have h1 := h.2
  rw [hd] at h1
  simpa using h1
theorem gstep_fs {x : GI} {rs : Option RS} {fr f : Fr} {st s : St} {p : Prop} (h : gstep P x rs fr st = some (f, s, p)) (hc : x.i.cl ≠ .hard) : ∃ v, f = updO fr x.i.dst v := by
 unfold gstep at h
 split at h
 ·exact astep_fs h hc
 ·split at h
  ·rename_i d hst hd
   split at h
   ·split at h
    ·split at h
     ·cases h
      exact ⟨some _, by rw [hd]; rfl⟩
     ·cases h
    ·cases h
   ·cases h
  ·split at h
   ·rename_i hh; exact absurd hh hc
   ·cases h
 ·cases h
theorem gstep_updO (x : GI) (rs : Option RS) (fr : Fr) (st : St) (d : Option Nat) (v : Option AV) (hr : ∀ e, d = some e → e ∉ x.looks) (hd : ∀ e, d = some e → x.i.dst ≠ some e) (hc : x.i.cl ≠ .hard) : gstep P x rs (updO fr d v) st = (gstep P x rs fr st).map fun r => (updO r.1 d v, r.2) := by
 cases d with
 | none =>
  cases h : gstep P x rs fr st with
  | none => simp only [updO, h]; rfl
  | some r => simp only [updO, h]; rfl
 | some d => exact gstep_fc x rs fr st v (hr d rfl) (hd d rfl) hc
theorem diamond {x y : GI} (hind : indep x y = true) {rx ry : Option RS} {fr f1 f2 : Fr} {st s1 s2 : St} {p q : Prop} (h1 : gstep P x rx fr st = some (f1, s1, p)) (h2 : gstep P y ry f1 s1 = some (f2, s2, q)) :
  ∃ f1' s1', gstep P y ry fr st = some (f1', s1', q) ∧ gstep P x rx f1' s1' = some (f2, s2, p) := by
 unfold indep at hind
 rw [Bool.and_eq_true] at hind
 obtain ⟨ha, hok⟩ := hind
 obtain ⟨a1, a2, a3⟩ := apartA_spec ha
 obtain ⟨vx, e1⟩ := gstep_fs h1 (okPair_hard hok).1
 subst e1
 rw [gstep_updO y ry fr s1 x.i.dst vx a1 a2 (okPair_hard hok).2] at h2
 cases hy : gstep P y ry fr s1 with
 | none => rw [hy] at h2; cases h2
 | some r =>
  obtain ⟨g, s2', q'⟩ := r
  rw [hy] at h2
  simp only [Option.map_some, Option.some.injEq, Prod.mk.injEq] at h2
  obtain ⟨e2, e3, e4⟩ := h2
  subst e2 e3 e4
  obtain ⟨s1', h3, h4⟩ := g_swap hok a2 h1 hy
  obtain ⟨vy, e5⟩ := gstep_fs hy (okPair_hard hok).2
  subst e5
  refine ⟨_, s1', h3, ?_⟩
  rw [gstep_updO x rx fr s1' y.i.dst vy a3 (fun e he e' => a2 e e' he) (okPair_hard hok).1, h4]
  simp only [Option.map_some]
  rw [updO_comm fr vx vy a2]
def anyA (P : Program) (ops : Array Oper) (S : List (GI × Option RS)) (R : Fr → St → Prop) : Nat → Array Bool → Fr → St → Prop
 | 0, listed, fr, st => Region.ready .any ops listed = [] ∧ R fr st
 | n + 1, listed, fr, st => (Region.ready .any ops listed = [] → R fr st) ∧ ∀ i ∈ Region.ready .any ops listed, ∃ x rs fr' st' p, S[i]? = some (x, rs) ∧ gstep P x rs fr st = some (fr', st', p) ∧ p ∧ anyA P ops S R n (listed.setIfInBounds i true) fr' st'
def depN (ops : Array Oper) : Nat → Nat → Nat → Bool
 | 0, _, _ => false
 | n + 1, j, i => match ops[j]? with
  | some o => o.after.any fun e => Region.binds .any e && (Nat.beq e.on i || depN ops n e.on i)
  | none => false
def ClosedL (ops : Array Oper) (listed : Array Bool) : Prop := ∀ j o, ops[j]? = some o → listed.getD j false = true → ∀ e ∈ o.after, Region.binds .any e = true → listed.getD e.on false = true
theorem depN_false {ops : Array Oper} {listed : Array Bool} {i : Nat} (hc : ClosedL ops listed) (hi : listed.getD i true = false) : ∀ (n j : Nat) o, ops[j]? = some o → (∀ e ∈ o.after, Region.binds .any e = true → listed.getD e.on false = true) → depN ops n j i = false
 | 0, _, _, _, _ => rfl
 | n + 1, j, o, ho, hall => by
  unfold depN
  rw [ho]
  simp only
  cases hq : (o.after.any fun e => Region.binds .any e && (Nat.beq e.on i || depN ops n e.on i)) with
  | false => rfl
  | true =>
   rw [Array.any_eq_true'] at hq
   obtain ⟨e, he, h4⟩ := hq
   rw [Bool.and_eq_true, Bool.or_eq_true] at h4
   have hl := hall e he h4.1
   rcases h4.2 with h5 | h5
   ·have := Nat.eq_of_beq_eq_true h5
    rw [this] at hl
    rcases Nat.lt_or_ge i listed.size with h' | h'
    ·simp [h'] at hi hl; rw [hi] at hl; cases hl
    ·simp [Array.getElem?_eq_none h'] at hl
   ·cases ho2 : ops[e.on]? with
    | none =>
     cases n with
     | zero => cases h5
     | succ n => unfold depN at h5; rw [ho2] at h5; cases h5
    | some o2 =>
     rw [depN_false hc hi n e.on o2 ho2 (hc e.on o2 ho2 hl)] at h5
     cases h5
theorem ClosedL.set {ops : Array Oper} {listed : Array Bool} (hc : ClosedL ops listed) {j : Nat} (hj : j ∈ Region.ready .any ops listed) : ClosedL ops (listed.setIfInBounds j true) := by
 intro k o ho hk e he hb
 obtain ⟨_, oj, hoj, hall⟩ := mem_ready.1 hj
 by_cases hkj : k = j
 ·subst hkj
  rw [ho] at hoj
  cases hoj
  exact getD_set_true (hall e he hb)
 ·rw [getD_set_ne false (Ne.symm hkj)] at hk
  exact getD_set_true (hc k o ho hk e he hb)
theorem anyA_first {ops : Array Oper} {S : List (GI × Option RS)} {R : Fr → St → Prop} {i : Nat} {xi : GI} {ri : Option RS} (hi : S[i]? = some (xi, ri)) :
  ∀ (fuel : Nat) (listed : Array Bool) (fr f1 : Fr) (st s1 : St) (p : Prop), ClosedL ops listed → (∀ j xj rj oj, S[j]? = some (xj, rj) → ops[j]? = some oj → j ≠ i → listed.getD j true = false → depN ops ops.size j i = false → indep xi xj = true) →
   i ∈ Region.ready .any ops listed → gstep P xi ri fr st = some (f1, s1, p) → p → anyA P ops S R fuel (listed.setIfInBounds i true) f1 s1 → anyA P ops S R (fuel + 1) listed fr st := by
 intro fuel
 induction fuel with
 | zero =>
  intro listed fr f1 st s1 p _ _ hr hs hp H
  refine ⟨fun h => (by rw [h] at hr; cases hr), fun j hj => ?_⟩
  by_cases hji : j = i
  ·subst hji; exact ⟨xi, ri, f1, s1, p, hi, hs, hp, H⟩
  ·have := ready_mono hj hji
   rw [H.1] at this
   cases this
 | succ fuel ih =>
  intro listed fr f1 st s1 p hcl hfree hr hs hp H
  refine ⟨fun h => (by rw [h] at hr; cases hr), fun j hj => ?_⟩
  by_cases hji : j = i
  ·subst hji; exact ⟨xi, ri, f1, s1, p, hi, hs, hp, H⟩
  ·obtain ⟨xj, rj, f2, s2, q, hSj, hsj, hq, h3⟩ := H.2 j (ready_mono hj hji)
   obtain ⟨hjun, oj, hoj, hall⟩ := mem_ready.1 hj
   have hnot := depN_false hcl (mem_ready.1 hr).1 ops.size j oj hoj hall
   have hind := hfree j xj rj oj hSj hoj hji hjun hnot
   obtain ⟨f1', s1', k1, k2⟩ := diamond hind hs hsj
   refine ⟨xj, rj, f1', s1', q, hSj, k1, hq, ih (listed.setIfInBounds j true) f1' f2 s1' s2 p (hcl.set hj) (fun k xk rk ok hSk hok hki hun hno => ?_) (ready_mono hr (Ne.symm hji)) k2 hp ?_⟩
   ·refine hfree k xk rk ok hSk hok hki ?_ hno
    by_cases hjk : j = k
    ·subst hjk; exact hjun
    ·rw [getD_set_ne true hjk] at hun; exact hun
   ·rw [Array.setIfInBounds_comm _ _ hji]
    exact h3
def freeA (ops : Array Oper) (gl : List GI) (listed : Array Bool) (i : Nat) (xi : GI) : Bool :=
 (List.range ops.size).all fun j => Nat.beq j i || listed.getD j true || (match ops[j]?, gl[j]? with
  | some oj, some xj => (oj.after.any fun e => Region.binds .any e && Nat.beq e.on i) || indep xi xj || depN ops ops.size j i
  | _, _ => false)
def lexA (ops : Array Oper) (gl : List GI) : Nat → Nat → Array Bool → Bool
 | 0, _, listed => (Region.ready .any ops listed).isEmpty
 | n + 1, k, listed => (Region.ready .any ops listed).contains k && (match gl[k]? with | some x => freeA ops gl listed k x | none => false) && lexA ops gl n (k + 1) (listed.setIfInBounds k true)
theorem anyA_lex {ops : Array Oper} {gl : List GI} {S : List (GI × Option RS)} (hS : S.map (·.1) = gl) {fr' : Fr} {st' : St} {R : Fr → St → Prop} (hR : R fr' st') :
  ∀ (l : List (GI × Option RS)) (k : Nat) (listed : Array Bool) (fr : Fr) (st : St) (p : Prop), ClosedL ops listed → (∀ j : Nat, l[j]? = S[k + j]?) → lexA ops gl l.length k listed = true → asteps P l fr st = some (fr', st', p) → p → anyA P ops S R l.length listed fr st
 | [], k, listed, fr, st, p, _, _, hB, hs, _ => by
  cases hs
  exact ⟨by simpa [lexA] using hB, hR⟩
 | (x, rs) :: l, k, listed, fr, st, p, hcl, hl, hB, hs, hp => by
  have h0 : S[k]? = some (x, rs) := by simpa using (hl 0).symm
  have hg : gl[k]? = some x := by rw [← hS, List.getElem?_map, h0]; rfl
  simp only [List.length_cons, lexA, Bool.and_eq_true, hg] at hB
  obtain ⟨⟨hr, hf⟩, hB'⟩ := hB
  unfold asteps at hs
  split at hs
  ·rename_i f1 s1 p1 h1
   split at hs
   ·rename_i f2 s2 q2 h2
    cases hs
    have hrk : k ∈ Region.ready .any ops listed := by simpa using hr
    refine anyA_first h0 l.length listed fr f1 st s1 p1 hcl (fun j xj rj oj hSj hoj hji hun hno => ?_) hrk h1 hp.1 (anyA_lex hS hR l (k + 1) _ f1 s1 q2 (hcl.set hrk) (fun j => by
     have := hl (j + 1)
     simp only [List.getElem?_cons_succ] at this
     rw [this, show k + (j + 1) = k + 1 + j by omega]) hB' h2 hp.2)
    have hj : j < ops.size := (Array.getElem?_eq_some_iff.1 hoj).1
    have h3 := List.all_eq_true.1 hf j (by simpa using hj)
    have hgj : gl[j]? = some xj := by rw [← hS, List.getElem?_map, hSj]; rfl
    simp only [hoj, hgj, Bool.or_eq_true] at h3
    rcases h3 with (h3 | h3) | (h3 | h3) | h3
    ·exact absurd (Nat.eq_of_beq_eq_true h3) hji
    ·rw [hun] at h3; cases h3
    ·rw [Array.any_eq_true'] at h3
     obtain ⟨e, he, h4⟩ := h3
     rw [Bool.and_eq_true] at h4
     have : depN ops ops.size j k = true := by
      cases hn : ops.size with
      | zero => omega
      | succ n =>
       unfold depN
       rw [hoj]
       simp only
       rw [Array.any_eq_true']
       exact ⟨e, he, by rw [h4.1, h4.2]; rfl⟩
     rw [hno] at this
     cases this
    ·exact h3
    ·rw [hno] at h3; cases h3
   ·cases hs
  ·cases hs
theorem wpAny_of_anyA {E : Env} {ops : Array Oper} {gl : List GI} {S : List (GI × Option RS)} (hS : S.map (·.1) = gl) (hat : At P mu ops gl) (hd : dstsLt E.n gl = true) {R : Fr → St → Prop} {Q : Exit → Act → World → Prop} (hQ : ∀ fr st G a w, R fr st → Conc E G fr st a w → Q .normal a w) :
  ∀ (fuel : Nat) (listed : Array Bool) (fr : Fr) (st : St) (G : Gho) (a : Act) (w : World), Conc E G fr st a w → anyA P ops S R fuel listed fr st → wpAny P .any ops Q fuel listed a w
 | 0, listed, fr, st, G, a, w, hc, h => ⟨h.1, hQ _ _ _ _ _ h.2 hc⟩
 | fuel + 1, listed, fr, st, G, a, w, hc, h => by
  refine ⟨fun h0 => hQ _ _ _ _ _ (h.1 h0) hc, fun i hi => ?_⟩
  obtain ⟨x, rs, fr', st', p, hSi, hs, hp, h3⟩ := h.2 i hi
  have hg : gl[i]? = some x := by rw [← hS, List.getElem?_map, hSi]; rfl
  have hil : i < ops.size := by
   rw [← hat.1]
   exact (List.getElem?_eq_some_iff.1 hg).1
  have ho : ops[i]? = some ops[i] := Array.getElem?_eq_getElem hil
  unfold wpOp
  simp only [ho]
  have hg2 := gsim (Q := Q) (K := wpAny P .any ops Q fuel (listed.setIfInBounds i true)) hc hat ho hg hs hp (dstsLt_at hd hg) (fun G' a' w' hc' => wpAny_of_anyA hS hat hd hQ fuel _ fr' st' G' a' w' hc' h3)
  split at hg2
  ·rename_i hw; rw [if_pos hw]; exact .inl hg2
  ·rename_i hw; rw [if_neg hw]; exact hg2
theorem region_ok {E : Env} {G : Gho} {fr fr' : Fr} {st st' : St} {a : Act} {w : World} {Q : Exit → Act → World → Prop} {ops : Array Oper} {gl : List GI} {draw : Bool} {id : Nat} {rs rs' : List RS} {p : Prop} (hm : P.follows .mixedOrders = true) (hops : opsGI P mu ops 0 ops.toList = some gl)
  (hlex : (!draw || lexA ops gl ops.size 0 (Array.replicate ops.size false)) = true) (hd : dstsLt E.n gl = true) (h : Conc E G fr st a w) (hs : arun P gl rs fr st = some (rs', fr', st', p)) (hp : p) (hQ : ∀ G a w, Conc E G fr' st' a w → Q .normal a w) : (Code.region id ops draw).wp P Q a w := by
 obtain ⟨S, hS, q, hst, hpq⟩ := arun_asteps hs
 have hat := at_of hops
 have hSl : S.length = ops.size := by rw [← hat.1, ← hS, List.length_map]
 cases draw with
 | false =>
  refine wp_region ?_
  have := seq_run (Q := Q) hat hd hQ (l := S) (k := 0) (fun j => by rw [hS, Nat.zero_add]) (by rw [hSl, Nat.zero_add]) hst (hpq hp) h
  rw [hSl] at this
  rwa [List.range_eq_range']
 | true =>
  simp only [Bool.not_true, Bool.false_or] at hlex
  refine wp_region_any hm ?_
  have h2 := anyA_lex (R := fun f s => f = fr' ∧ s = st') hS ⟨rfl, rfl⟩ S 0 (Array.replicate ops.size false) fr st q (fun j o _ hj => by simp [Array.getD_eq_getD_getElem?, Array.getElem?_replicate] at hj; split at hj <;> simp at hj) (fun j => by rw [Nat.zero_add]) (by rw [hSl]; exact hlex) hst (hpq hp)
  rw [hSl] at h2
  refine wpAny_of_anyA hS hat hd (fun f s G' a' w' hR hc => by obtain ⟨rfl, rfl⟩ := hR; exact hQ _ _ _ hc) _ _ fr st G a _ (h.same ?_) h2
  exact (Below.refl w.heap.size w).drew
end
inductive ACode where
 | skip
 | reg (l : List GI)
 /-- a region that draws no order, and is walked in parts -/
 | regs (l : List GI)
 /-- a region whose orders are tried one by one; behind which operations each one comes -/
 | rega (l : List GI) (ds : List (List Nat))
 | seq (a b : ACode)
 | cond (c : Opd) (t e : ACode)
 | block (id : Nat) (b : ACode)
 | loop (b : ACode)
 | exit (id : Nat)
 | ret
def depsOf (ops : Array Oper) : List (List Nat) := ops.toList.map fun o => (o.after.toList.filter fun e => Region.binds .any e).map (·.on)
def readyB (ds : List (List Nat)) (listed : Array Bool) (j : Nat) : Bool :=
 match ds[j]? with
 | some l => !listed.getD j true && l.all fun e => listed.getD e false
 | none => false
def rdy (ds : List (List Nat)) (listed : Array Bool) : List Nat := (List.range ds.length).filter (readyB ds listed)
theorem mem_rdy {ops : Array Oper} {listed : Array Bool} {j : Nat} : j ∈ rdy (depsOf ops) listed ↔ j ∈ Region.ready .any ops listed := by
 rw [mem_ready, rdy, List.mem_filter, List.mem_range]
 have e : (depsOf ops)[j]? = (ops[j]?).map fun o => (o.after.toList.filter fun e => Region.binds .any e).map (·.on) := by
  rw [depsOf, List.getElem?_map, Array.getElem?_toList]
 have hl : (depsOf ops).length = ops.size := by simp [depsOf]
 unfold readyB
 rw [e, hl]
 cases ho : ops[j]? with
 | none => simp
 | some o =>
  have hj := (Array.getElem?_eq_some_iff.1 ho).1
  simp only [Option.map_some, Bool.and_eq_true, Bool.not_eq_true', List.all_eq_true, List.mem_map, List.mem_filter, Array.mem_toList_iff, Option.some.injEq]
  constructor
  ·rintro ⟨_, h1, h2⟩
   exact ⟨h1, o, rfl, fun e he hb => h2 _ ⟨e, ⟨he, hb⟩, rfl⟩⟩
  ·rintro ⟨h1, o', rfl, h2⟩
   exact ⟨hj, h1, fun x ⟨e, ⟨he, hb⟩, hx⟩ => hx ▸ h2 e he hb⟩
def allP (f : Nat → Prop) : List Nat → Prop
 | [] => True
 | i :: l => f i ∧ allP f l
theorem allP_mem {f : Nat → Prop} : ∀ {l : List Nat}, allP f l → ∀ i ∈ l, f i
 | x :: l, h, i, hi => by
  rcases List.mem_cons.1 hi with rfl | hi
  ·exact h.1
  ·exact allP_mem h.2 i hi
def anyD (P : Program) (ds : List (List Nat)) (S : List (GI × Option RS)) (R : Fr → St → Prop) : Nat → Array Bool → Fr → St → Prop
 | 0, listed, fr, st => match rdy ds listed with
  | [] => R fr st
  | _ => False
 | n + 1, listed, fr, st => match rdy ds listed with
  | [] => R fr st
  | l => allP (fun i => match S[i]? with
   | none => False
   | some (x, rs) => match gstep P x rs fr st with
    | none => False
    | some (fr', st', p) => p ∧ anyD P ds S R n (listed.setIfInBounds i true) fr' st') l
theorem anyA_of_anyD {P : Program} {ops : Array Oper} {S : List (GI × Option RS)} {R : Fr → St → Prop} : ∀ (n : Nat) (listed : Array Bool) (fr : Fr) (st : St), anyD P (depsOf ops) S R n listed fr st → anyA P ops S R n listed fr st
 | 0, listed, fr, st, h => by
  unfold anyD at h
  split at h
  ·rename_i he
   refine ⟨List.eq_nil_iff_forall_not_mem.2 fun j hj => ?_, h⟩
   have := mem_rdy.2 hj
   rw [he] at this
   cases this
  ·exact h.elim
 | n + 1, listed, fr, st, h => by
  unfold anyD at h
  split at h
  ·rename_i he
   refine ⟨fun _ => h, fun j hj => ?_⟩
   have := mem_rdy.2 hj
   rw [he] at this
   cases this
  ·rename_i hne
   refine ⟨fun h0 => ?_, fun j hj => ?_⟩
   ·exfalso
    refine hne (List.eq_nil_iff_forall_not_mem.2 fun j hj => ?_)
    have := mem_rdy.1 hj
    rw [h0] at this
    cases this
   ·have h2 := allP_mem h j (mem_rdy.2 hj)
    split at h2
    ·exact h2.elim
    ·rename_i x rs hS
     split at h2
     ·exact h2.elim
     ·rename_i fr' st' p hg
      exact ⟨x, rs, fr', st', p, hS, hg, h2.1, anyA_of_anyD n _ fr' st' h2.2⟩
def mkS : List GI → List RS → List (GI × Option RS)
 | [], _ => []
 | x :: l, rs => match x.i.wantsRS, rs with
  | true, r :: rs => (x, some r) :: mkS l rs
  | _, rs => (x, none) :: mkS l rs
theorem mkS_map : ∀ (l : List GI) (rs : List RS), (mkS l rs).map (·.1) = l
 | [], _ => rfl
 | x :: l, rs => by
  unfold mkS
  split <;> rw [List.map_cons, mkS_map l]
def GI.iter (x : GI) : Bool := match x.i with
 | .rng .. | .nxt .. | .ent .. => true
 | _ => false
def noIter (l : List GI) : Bool := l.all fun x => !x.iter
theorem lex_of {draw : Bool} {b c : Bool} (h : (!draw || (b && c)) = true) : (!draw || b) = true := by cases draw <;> cases b <;> simp_all
def codeAC (P : Program) (mu : List Nat) : Code → Option ACode
 | .skip => some .skip
 | .region id ops draw => match opsGI P mu ops 0 ops.toList with
  | some l => match !draw || (lexA ops l ops.size 0 (Array.replicate ops.size false) && noIter l) with
   | true => match memN (id + 5000000) mu && !draw with
    | true => some (.regs l)
    | false => some (.reg l)
   | false => match draw with
    | true => some (.rega l (depsOf ops))
    | false => none
  | none => none
 | .seq a b => match codeAC P mu a, codeAC P mu b with
  | some a, some b => some (.seq a b)
  | _, _ => none
 | .cond c t e => match opdOf P 0 c, codeAC P mu t, codeAC P mu e with
  | some c, some t, some e => some (.cond c t e)
  | _, _, _ => none
 | .block id b => match codeAC P mu b with
  | some b => some (.block id b)
  | none => none
 | .loop b => match codeAC P mu b with
  | some b => some (.loop b)
  | none => none
 | .exit id => some (.exit id)
 | .ret => some .ret
 | _ => none
inductive ARes where
 | tmp (t : Nat)
 | cell (t n : Nat) (agg : Bool)
structure AFn where
 np : Nat
 n : Nat
 body : ACode
 res : List ARes
def resOf (P : Program) : List ResultVar → Option (List ARes)
 | [] => some []
 | .tmp t :: l => match resOf P l with
  | some r => some (.tmp t :: r)
  | none => none
 | .cell a t :: l => match P.info? t, resOf P l with
  | some i, some r => if (P.underlying t).isSome then some (.cell a i.size (isAggT P t) :: r) else none
  | _, _ => none
def dstsOk (n : Nat) : ACode → Bool
 | .reg l => dstsLt n l
 | .regs l => dstsLt n l
 | .rega l _ => dstsLt n l
 | .seq a b => dstsOk n a && dstsOk n b
 | .cond _ a b => dstsOk n a && dstsOk n b
 | .block _ b => dstsOk n b
 | .loop b => dstsOk n b
 | _ => true
def fnAF (P : Program) (mu : List Nat) (f : Func) : Option AFn :=
 match f.body with
 | some c => match codeAC P mu c, resOf P f.results.toList with
  | some b, some r => if dstsOk f.ntmps b && Nat.ble f.params.size f.ntmps && Nat.ble f.ntmps 900000 then some ⟨f.params.size, f.ntmps, b, r⟩ else none
  | _, _ => none
 | none => none
end Go.Proofs.YtgidajjjpeboeaaGreatDoor
/-
 The abstract walk: code, loops, a function's call.
-/
namespace Go.Proofs.YtgidajjjpeboeaaGreatDoor
open Go.RowKit
def AWp (P : Program) (E : Env) (ac : ACode) (Q : Exit → Fr → St → Prop) (fr : Fr) (st : St) : Prop :=
 ∀ (mu : List Nat) (c : Code) G a w, codeAC P mu c = some ac → dstsOk E.n ac = true → Conc E G fr st a w → c.wp P (fun e a' w' => ∃ G' fr' st', Conc E G' fr' st' a' w' ∧ Q e fr' st') a w
inductive AItem where
 | c (a : ACode)
 | blk (id : Nat)
 | lp (I : Fr → St → Prop)
def mkQ (Q : Exit → Fr → St → Prop) (n : Fr → St → Prop) (x : Nat → Fr → St → Prop) : Exit → Fr → St → Prop
 | .normal => n
 | .exit id => x id
 | e => Q e
def KS (P : Program) (E : Env) (Q : Exit → Fr → St → Prop) : List AItem → (Fr → St → Prop) × (Nat → Fr → St → Prop)
 | [] => (Q .normal, fun id => Q (.exit id))
 | .c a :: k => (fun fr st => dstsOk E.n a = true → AWp P E a (mkQ Q (KS P E Q k).1 (KS P E Q k).2) fr st, (KS P E Q k).2)
 | .blk id :: k => ((KS P E Q k).1, fun id' => if Nat.beq id id' then (KS P E Q k).1 else (KS P E Q k).2 id')
 | .lp I :: k => (I, (KS P E Q k).2)
def AK (P : Program) (E : Env) (Q : Exit → Fr → St → Prop) (k : List AItem) (fr : Fr) (st : St) : Prop := (KS P E Q k).1 fr st
def exitK (id : Nat) : List AItem → Option (List AItem)
 | [] => none
 | .c _ :: k => exitK id k
 | .blk id' :: k => match Nat.beq id' id with
  | true => some k
  | false => exitK id k
 | .lp _ :: k => exitK id k
section
variable {P : Program} {E : Env} {Q : Exit → Fr → St → Prop} {k : List AItem} {fr fr' : Fr} {st st' : St}
theorem AK.seq {a b : ACode} (h : AK P E Q (.c a :: .c b :: k) fr st) : AK P E Q (.c (.seq a b) :: k) fr st := by
 intro hd mu c G ac w hc _ hC
 simp only [dstsOk, Bool.and_eq_true] at hd
 cases c with
 | seq x y =>
  simp only [codeAC] at hc
  split at hc
  ·rename_i a' b' hx hy
   cases hc
   refine wp_seq (wp_mono (h hd.1 mu x G ac w hx hd.1 hC) fun e a' w' ⟨G', f, s, hC', hQ⟩ => ?_)
   cases e with
   | normal => exact hQ hd.2 mu y G' a' w' hy hd.2 hC'
   | exit id => exact ⟨G', f, s, hC', hQ⟩
   | goto l => exact ⟨G', f, s, hC', hQ⟩
   | ret => exact ⟨G', f, s, hC', hQ⟩
   | panic ch => exact ⟨G', f, s, hC', hQ⟩
   | outgrown => exact ⟨G', f, s, hC', hQ⟩
  ·cases hc
 | region id ops dr => simp only [codeAC] at hc; split at hc; · (repeat' (split at hc)) <;> cases hc
                       ·cases hc
 | cond x t e => simp only [codeAC] at hc; split at hc <;> cases hc
 | block id b => simp only [codeAC] at hc; split at hc <;> cases hc
 | loop b => simp only [codeAC] at hc; split at hc <;> cases hc
 | _ => cases hc
theorem AK.block {id : Nat} {b : ACode} (h : AK P E Q (.c b :: .blk id :: k) fr st) : AK P E Q (.c (.block id b) :: k) fr st := by
 intro hd mu c G ac w hc _ hC
 cases c with
 | block id' x =>
  simp only [codeAC] at hc
  split at hc
  ·rename_i b' hx
   cases hc
   refine wp_block (wp_mono (h hd mu x G ac w hx hd hC) fun e a' w' ⟨G', f, s, hC', hQ⟩ => ?_)
   cases e with
   | normal => exact ⟨G', f, s, hC', hQ⟩
   | exit i =>
    simp only [Exit.inBlock]
    simp only [mkQ, KS] at hQ
    by_cases hi : i = id
    ·subst hi
     rw [if_pos rfl]
     rw [if_pos (Nat.beq_refl i)] at hQ
     exact ⟨G', f, s, hC', hQ⟩
    ·rw [if_neg hi]
     rw [if_neg (by rw [nbeq_ne (fun e => hi e.symm)]; simp)] at hQ
     exact ⟨G', f, s, hC', hQ⟩
   | goto l => exact ⟨G', f, s, hC', hQ⟩
   | ret => exact ⟨G', f, s, hC', hQ⟩
   | panic ch => exact ⟨G', f, s, hC', hQ⟩
   | outgrown => exact ⟨G', f, s, hC', hQ⟩
  ·cases hc
 | region id ops dr => simp only [codeAC] at hc; split at hc; · (repeat' (split at hc)) <;> cases hc
                       ·cases hc
 | cond x t e => simp only [codeAC] at hc; split at hc <;> cases hc
 | seq x y => simp only [codeAC] at hc; split at hc <;> cases hc
 | loop b => simp only [codeAC] at hc; split at hc <;> cases hc
 | _ => cases hc
theorem AK.blk {id : Nat} (h : AK P E Q k fr st) : AK P E Q (.blk id :: k) fr st := h
theorem AK.lp {I : Fr → St → Prop} (h : I fr st) : AK P E Q (.lp I :: k) fr st := h
theorem exitK_spec {id : Nat} : ∀ {k k' : List AItem}, exitK id k = some k' → AK P E Q k' fr st → (KS P E Q k).2 id fr st
 | [], k', h, _ => by cases h
 | .c a :: k, k', h, hk => exitK_spec (k := k) h hk
 | .lp I :: k, k', h, hk => exitK_spec (k := k) h hk
 | .blk id' :: k, k', h, hk => by
  simp only [exitK] at h
  simp only [KS]
  split at h
  ·rename_i hb
   cases h
   rw [if_pos hb]
   exact hk
  ·rename_i hb
   rw [if_neg (by rw [hb]; simp)]
   exact exitK_spec (k := k) h hk
theorem AK.exit {id : Nat} {k' : List AItem} (he : exitK id k = some k') (h : AK P E Q k' fr st) : AK P E Q (.c (.exit id) :: k) fr st := by
 intro hd mu c G ac w hc _ hC
 cases c with
 | exit id' =>
  cases hc
  exact wp_exit ⟨G, fr, st, hC, exitK_spec he h⟩
 | region id ops dr => simp only [codeAC] at hc; split at hc; · (repeat' (split at hc)) <;> cases hc
                       ·cases hc
 | cond x t e => simp only [codeAC] at hc; split at hc <;> cases hc
 | seq x y => simp only [codeAC] at hc; split at hc <;> cases hc
 | block id b => simp only [codeAC] at hc; split at hc <;> cases hc
 | loop b => simp only [codeAC] at hc; split at hc <;> cases hc
 | _ => cases hc
theorem AK.ret (h : Q .ret fr st) : AK P E Q (.c .ret :: k) fr st := by
 intro hd mu c G ac w hc _ hC
 cases c with
 | ret => exact wp_ret ⟨G, fr, st, hC, h⟩
 | region id ops dr => simp only [codeAC] at hc; split at hc; · (repeat' (split at hc)) <;> cases hc
                       ·cases hc
 | cond x t e => simp only [codeAC] at hc; split at hc <;> cases hc
 | seq x y => simp only [codeAC] at hc; split at hc <;> cases hc
 | block id b => simp only [codeAC] at hc; split at hc <;> cases hc
 | loop b => simp only [codeAC] at hc; split at hc <;> cases hc
 | _ => cases hc
theorem AK.skip (h : AK P E Q k fr st) : AK P E Q (.c .skip :: k) fr st := by
 intro hd mu c G ac w hc _ hC
 cases c with
 | skip => exact wp_skip ⟨G, fr, st, hC, h⟩
 | region id ops dr => simp only [codeAC] at hc; split at hc; · (repeat' (split at hc)) <;> cases hc
                       ·cases hc
 | cond x t e => simp only [codeAC] at hc; split at hc <;> cases hc
 | seq x y => simp only [codeAC] at hc; split at hc <;> cases hc
 | block id b => simp only [codeAC] at hc; split at hc <;> cases hc
 | loop b => simp only [codeAC] at hc; split at hc <;> cases hc
 | _ => cases hc
theorem AK.cond {c : Opd} {t e : ACode} {b : Bool} (hb : c.ev fr = some (.bool b)) (ht : b = true → AK P E Q (.c t :: k) fr st) (hf : b = false → AK P E Q (.c e :: k) fr st) : AK P E Q (.c (.cond c t e) :: k) fr st := by
 intro hd mu cc G ac w hc _ hC
 simp only [dstsOk, Bool.and_eq_true] at hd
 cases cc with
 | cond x y z =>
  simp only [codeAC] at hc
  split at hc
  ·rename_i x' y' z' hx hy hz
   cases hc
   have hv := (hC.ev hx hb).bool
   exact wp_cond_split hv (fun e => ht e hd.1 mu y G ac w hy hd.1 hC) (fun e => hf e hd.2 mu z G ac w hz hd.2 hC)
  ·cases hc
 | region id ops dr => simp only [codeAC] at hc; split at hc; · (repeat' (split at hc)) <;> cases hc
                       ·cases hc
 | seq x y => simp only [codeAC] at hc; split at hc <;> cases hc
 | block id b => simp only [codeAC] at hc; split at hc <;> cases hc
 | loop b => simp only [codeAC] at hc; split at hc <;> cases hc
 | _ => cases hc
theorem AK.reg (hm : P.follows .mixedOrders = true) {l : List GI} {rs rs' : List RS} {p : Prop} (hs : arun P l rs fr st = some (rs', fr', st', p)) (hp : p) (h : AK P E Q k fr' st') : AK P E Q (.c (.reg l) :: k) fr st := by
 intro hd mu c G ac w hc _ hC
 cases c with
 | region id ops dr =>
  simp only [codeAC] at hc
  split at hc
  ·rename_i l' hl
   split at hc
   ·rename_i hlex
    split at hc
    ·cases hc
    cases hc
    exact region_ok hm hl (lex_of hlex) hd hC hs hp fun G' a' w' hC' => ⟨G', fr', st', hC', h⟩
   ·split at hc <;> cases hc
  ·cases hc
 | cond x t e => simp only [codeAC] at hc; split at hc <;> cases hc
 | seq x y => simp only [codeAC] at hc; split at hc <;> cases hc
 | block id b => simp only [codeAC] at hc; split at hc <;> cases hc
 | loop b => simp only [codeAC] at hc; split at hc <;> cases hc
 | _ => cases hc
def Weak (fr : Fr) (st : St) (fr' : Fr) (st' : St) : Prop := ∀ (E : Env) (G : Gho) (a : Act) (w : World), Conc E G fr st a w → ∃ G', Conc E G' fr' st' a w
theorem AK.rega (hm : P.follows .mixedOrders = true) {l : List GI} {ds : List (List Nat)} (rs : List RS) (f0 : Fr) (s0 : St) (hA : anyD P ds (mkS l rs) (fun f s => Weak f s f0 s0) ds.length (Array.replicate ds.length false) fr st) (h : AK P E Q k f0 s0) : AK P E Q (.c (.rega l ds) :: k) fr st := by
 intro hd mu c G ac w hc _ hC
 cases c with
 | region id ops dr =>
  simp only [codeAC] at hc
  split at hc
  ·rename_i l' hl
   split at hc
   ·split at hc <;> cases hc
   ·split at hc
    ·cases hc
     refine wp_region_any hm ?_
     have hz : (depsOf ops).length = ops.size := by simp [depsOf]
     rw [hz] at hA
     refine wpAny_of_anyA (mkS_map _ _) (at_of hl) hd (fun f s G' a' w' hR hc => ?_) _ _ fr st G ac _ (hC.same ?_) (anyA_of_anyD _ _ _ _ hA)
     ·obtain ⟨G2, hC2⟩ := hR E G' a' w' hc
      exact ⟨G2, f0, s0, hC2, h⟩
     ·exact (Below.refl w.heap.size w).drew
    ·cases hc
  ·cases hc
 | cond x t e => simp only [codeAC] at hc; split at hc <;> cases hc
 | seq x y => simp only [codeAC] at hc; split at hc <;> cases hc
 | block id b => simp only [codeAC] at hc; split at hc <;> cases hc
 | loop b => simp only [codeAC] at hc; split at hc <;> cases hc
 | _ => cases hc
theorem AK.weak {a : ACode} (hw : Weak fr st fr' st') (h : AK P E Q (.c a :: k) fr' st') : AK P E Q (.c a :: k) fr st := by
 intro hd mu c G ac w hc hd2 hC
 obtain ⟨G', hC'⟩ := hw E G ac w hC
 exact h hd mu c G' ac w hc hd2 hC'
theorem least {S : Nat → Prop} (h : ∃ n, S n) : ∃ n, S n ∧ ∀ m, S m → n ≤ m := by
 obtain ⟨n, hn⟩ := h
 induction n using Nat.strongRecOn with
 | _ n ih =>
  by_cases hx : ∃ m, m < n ∧ S m
  ·obtain ⟨m, hm, hs⟩ := hx
   exact ih m hm hs
  ·exact ⟨n, hn, fun m hm => Nat.le_of_not_lt fun hlt => hx ⟨m, hlt, hm⟩⟩
open Classical in
noncomputable def leastN (S : Nat → Prop) : Nat := if h : ∃ n, S n then Classical.choose (least h) else 0
theorem leastN_spec {S : Nat → Prop} {n : Nat} (h : S n) : S (leastN S) ∧ ∀ m, S m → leastN S ≤ m := by
 have hx : ∃ n, S n := ⟨n, h⟩
 unfold leastN
 rw [dif_pos hx]
 exact Classical.choose_spec (least hx)
theorem AK.loop {ι : Type} (J : ι → Fr × St) (μ : ι → Nat) {b : ACode} (i0 : ι) (h0 : Weak fr st (J i0).1 (J i0).2) (h : ∀ i, AK P E Q (.c b :: .lp (fun fr st => ∃ i', Weak fr st (J i').1 (J i').2 ∧ μ i' < μ i) :: k) (J i).1 (J i).2) : AK P E Q (.c (.loop b) :: k) fr st := by
 intro hd mu c G ac w hc _ hC
 have hd' : dstsOk E.n b = true := hd
 cases c with
 | loop x =>
  simp only [codeAC] at hc
  split at hc
  ·rename_i b' hx
   cases hc
   obtain ⟨G', hC'⟩ := h0 E G ac w hC
   refine wp_loop (fun a w => ∃ i G, Conc E G (J i).1 (J i).2 a w) (fun a w => leastN fun m => ∃ i G, Conc E G (J i).1 (J i).2 a w ∧ μ i = m) ⟨i0, G', hC'⟩ ?_
   intro a1 w1 ⟨i1, G1, hC1⟩
   obtain ⟨⟨i2, G2, hC2, hμ⟩, hmin⟩ := leastN_spec (S := fun m => ∃ i G, Conc E G (J i).1 (J i).2 a1 w1 ∧ μ i = m) ⟨i1, G1, hC1, rfl⟩
   refine wp_mono (h i2 hd' mu x G2 a1 w1 hx hd' hC2) fun e a2 w2 ⟨G3, f, s, hC3, hQ⟩ => ?_
   cases e with
   | normal =>
    obtain ⟨i3, hw, hlt⟩ := hQ
    obtain ⟨G4, hC4⟩ := hw E G3 a2 w2 hC3
    refine ⟨⟨i3, G4, hC4⟩, ?_⟩
    have := (leastN_spec (S := fun m => ∃ i G, Conc E G (J i).1 (J i).2 a2 w2 ∧ μ i = m) ⟨i3, G4, hC4, rfl⟩).2 _ ⟨i3, G4, hC4, rfl⟩
    rw [← hμ]
    omega
   | exit id => exact ⟨G3, f, s, hC3, hQ⟩
   | goto l => exact ⟨G3, f, s, hC3, hQ⟩
   | ret => exact ⟨G3, f, s, hC3, hQ⟩
   | panic ch => exact ⟨G3, f, s, hC3, hQ⟩
   | outgrown => exact ⟨G3, f, s, hC3, hQ⟩
  ·cases hc
 | region id ops dr => simp only [codeAC] at hc; split at hc; · (repeat' (split at hc)) <;> cases hc
                       ·cases hc
 | cond x t e => simp only [codeAC] at hc; split at hc <;> cases hc
 | seq x y => simp only [codeAC] at hc; split at hc <;> cases hc
 | block id b => simp only [codeAC] at hc; split at hc <;> cases hc
 | _ => cases hc
theorem AK.loopI {ι : Type} (J : ι → Fr × St) (I : ι → Prop) (μ : ι → Nat) {b : ACode} (i0 : ι) (hI : I i0) (h0 : Weak fr st (J i0).1 (J i0).2)
  (h : ∀ i, I i → AK P E Q (.c b :: .lp (fun fr st => ∃ i', I i' ∧ Weak fr st (J i').1 (J i').2 ∧ μ i' < μ i) :: k) (J i).1 (J i).2) : AK P E Q (.c (.loop b) :: k) fr st := by
 refine AK.loop (ι := { i // I i }) (fun i => J i.1) (fun i => μ i.1) ⟨i0, hI⟩ h0 fun i => ?_
 have h2 := h i.1 i.2
 have e : (fun fr st => ∃ i' : { i // I i }, Weak fr st (J i'.1).1 (J i'.1).2 ∧ μ i'.1 < μ i.1) = fun fr st => ∃ i', I i' ∧ Weak fr st (J i').1 (J i').2 ∧ μ i' < μ i.1 := by
  funext f s
  exact propext ⟨fun ⟨i', h1, h2⟩ => ⟨i'.1, i'.2, h1, h2⟩, fun ⟨i', hi, h1, h2⟩ => ⟨⟨i', hi⟩, h1, h2⟩⟩
 rw [e]
 exact h2
end
end Go.Proofs.YtgidajjjpeboeaaGreatDoor
/-
 The abstract walk: what is known may be said with less; a contract out of a function's walk.
-/
namespace Go.Proofs.YtgidajjjpeboeaaGreatDoor
open Go.RowKit
inductive AVle1 (st : St) : AV → AV → Prop where
 | refl (a : AV) : AVle1 st a a
 | any (t : Tag) (esz : Nat) (l : List (List AV)) : AVle1 st (.lst t esz l) (.lst .any esz l)
 | own (s v esz : Nat) (l : List (List AV)) : AVle1 st (.lst .nil esz l) (.lst (.own s v) esz l)
 | frz (id esz cap : Nat) (rows : List (List AV)) (sp : List AV) (hb : st.box id = some (rows.flatten ++ sp, true)) (hro : RowsOk esz rows) (hmp : isMp id = false := by rfl) : AVle1 st (.sli id esz rows.length cap) (.lst .any esz rows)
 | top (a : AV) (h : a.unown = .top) : AVle1 st a .top
def leL (st : St) : List AV → List AV → Prop
 | [], [] => True
 | a :: as, b :: bs => AVle1 st a b ∧ leL st as bs
 | _, _ => False
inductive AVle (st : St) : AV → AV → Prop where
 | one {a b : AV} (h : AVle1 st a b) : AVle st a b
 | agg {cs ds : List AV} (h : leL st cs ds) : AVle st (.agg cs) (.agg ds)
theorem AVle.refl {st : St} (a : AV) : AVle st a a := .one (.refl a)
theorem AVle.of_eq {st : St} {a b : AV} (h : a = b) : AVle st a b := h ▸ .refl a
theorem leL_refl {st : St} : ∀ cs : List AV, leL st cs cs
 | [] => trivial
 | a :: cs => ⟨.refl a, leL_refl cs⟩
theorem leL_of_eq {st : St} {cs ds : List AV} (h : cs = ds) : leL st cs ds := h ▸ leL_refl cs
theorem leL_at {st : St} : ∀ {cs ds : List AV}, leL st cs ds → cs.length = ds.length ∧ ∀ (j : Nat) b, ds[j]? = some b → ∃ a, cs[j]? = some a ∧ AVle1 st a b
 | [], [], _ => ⟨rfl, fun j b h => by simp at h⟩
 | a :: cs, b :: ds, h => by
  obtain ⟨h1, h2⟩ := leL_at h.2
  refine ⟨by simp [h1], fun j c hc => ?_⟩
  cases j with
  | zero => simp at hc; subst hc; exact ⟨a, rfl, h.1⟩
  | succ j => simpa using h2 j c (by simpa using hc)
 | [], _ :: _, h => h.elim
 | _ :: _, [], h => h.elim
section
variable {P : Program} {mu : List Nat} {E : Env} {G G' : Gho} {fr fr' : Fr} {st st' : St} {a : Act} {w : World}
structure Gho.less (G G' : Gho) : Prop where
 σ : G.σ = G'.σ
 ρ : G.ρ = G'.ρ
 B : ∀ id g, G'.B id = some g → G.B id = some g
def AV.noFrs : AV → Bool
 | .frs _ _ _ => false
 | _ => true
theorem TagOk.less (h : G.less G') {v : Value} {a : AV} (hn : a.noFrs = true) (ht : TagOk G v a) : TagOk G' v a := by
 unfold TagOk at ht ⊢
 split at ht
 ·rw [← h.ρ]; exact ht
 ·obtain ⟨h0, h00, g, h1, h2⟩ := ht
  exact ⟨h0, h00, g, h1, fun g' hg => h2 g' (h.B _ _ hg)⟩
 ·cases hn
 ·obtain ⟨h0, g, h1, h2⟩ := ht
  exact ⟨h0, g, h1, fun g' hg => h2 g' (h.B _ _ hg)⟩
 ·trivial
theorem RelT.less (h : G.less G') {v : Value} {a : AV} (hn : a.noFrs = true) (ht : RelT G v a) : RelT G' v a := by
 cases a with
 | frs k e r => cases hn
 | np i o => exact ⟨by rw [← h.σ]; exact ht.1, ht.2.less h rfl⟩
 | sli i e n c => exact ⟨by rw [← h.σ]; exact ht.1, ht.2.less h rfl⟩
 | _ => exact RelT.of (by rw [← h.σ]; exact RelT.plain ht rfl)
theorem cell_le (hC : Conc E G fr st a w) (hx : G.less G') {v : Value} {x y : AV} (h : Rel1 G.σ v x.unown ∧ TagOk G v x) (hn : y.noFrs = true) (hle : AVle1 st x y) : Rel1 G'.σ v y.unown ∧ TagOk G' v y := by
 rw [← hx.σ]
 cases hle with
 | refl => exact ⟨h.1, h.2.less hx hn⟩
 | any t esz l =>
  have := h.1.plain
  rw [plain_unown] at this
  exact ⟨this, trivial⟩
 | own s ver esz l =>
  have hs : RelS G v (.lst .nil esz l) := h
  obtain ⟨A, cap, b, o, f, q1, _, _, _, _, _, _, q8, _⟩ := lst_open hs
  have h8 := q8 rfl
  have := h.1.plain
  rw [plain_unown] at this
  exact ⟨this, .inl ⟨h8.2.1, A, by rw [q1, h8.2.1, h8.2.2]⟩⟩
 | top a ht => exact ⟨(show Rel1 G.σ v .top by have := h.1; rw [ht] at this; exact this), trivial⟩
 | frz id esz cap rows sp hb hro hmp =>
  refine ⟨?_, trivial⟩
  obtain ⟨h0, hcap, g0, hv, hg0⟩ := h.2
  obtain ⟨g, hB, hge, ty, vs, hg, hr, _, hfz⟩ := hC.box id _ true hb
  replace hg := hg.cells hmp
  rw [← hg0 g hB] at hv
  subst hv
  obtain ⟨hfl, hnt⟩ := hro.flat
  have hvl : vs.size = (rows.flatten ++ sp).length := by
   have h1 : vs.toList.length = ((rows.flatten ++ sp).map AV.unown).length := hr.1
   rw [List.length_map] at h1
   simpa using h1
  have hle : rows.length * esz ≤ vs.size := by rw [hvl, List.length_append, hfl]; omega
  refine .lst .any esz rows _ _ cap g 0 (fun i j => vs.getD (i * esz + j) undef) rfl hcap (fun _ => rfl) (fun i c hc => (hro.2 c (List.mem_of_getElem? hc)).1) (fun i j hi hj => ?_) (fun i j c x hc hx => ?_) trivial
  ·have hlt : i * esz + j < vs.size := by
    have h1 : (i + 1) * esz ≤ rows.length * esz := Nat.mul_le_mul_right _ (by omega)
    rw [Nat.add_mul] at h1
    omega
   have h2 : vs[i * esz + j]? = some vs[i * esz + j] := Array.getElem?_eq_getElem hlt
   rw [Nat.zero_add, hfz _ _ h2, Array.getD, dif_pos hlt]
   rfl
  ·have h1 := hro.at_ hc hx
   have h2 : ((rows.flatten ++ sp).map AV.unown)[i * esz + j]? = some x := by
    rw [List.map_append, hnt, List.getElem?_append_left (List.getElem?_eq_some_iff.1 h1).1]
    exact h1
   obtain ⟨v, hv1, hv2⟩ := hr.at_ h2
   have : vs[i * esz + j]? = some v := by simpa using hv1
   simp only [Array.getD_eq_getD_getElem?, this]
   exact hv2
theorem cells_le (hC : Conc E G fr st a w) (hx : G.less G') {vs : List Value} {cs ds : List AV} (h : RelL G.σ vs (cs.map AV.unown)) (ht : TagsOk G vs cs) (hn : ∀ d ∈ ds, d.noFrs = true) (hle : leL st cs ds) : RelL G'.σ vs (ds.map AV.unown) ∧ TagsOk G' vs ds := by
 obtain ⟨h1, h2⟩ := leL_at hle
 have key : ∀ (j : Nat) v b, vs[j]? = some v → ds[j]? = some b → Rel1 G'.σ v b.unown ∧ TagOk G' v b := by
  intro j v b hv hb
  obtain ⟨a, ha, hab⟩ := h2 j b hb
  exact cell_le hC hx ⟨h.2 j v _ hv (by rw [List.getElem?_map, ha]; rfl), ht j v a hv ha⟩ (hn b (List.mem_of_getElem? hb)) hab
 refine ⟨⟨by have := h.1; simp at this ⊢; omega, fun j v b hv hb => ?_⟩, fun j v b hv hb => (key j v b hv hb).2⟩
 rw [List.getElem?_map] at hb
 cases hd : ds[j]? with
 | none => rw [hd] at hb; cases hb
 | some d => rw [hd] at hb; cases hb; exact (key j v d hv hd).1
def AV.keeps : AV → Bool
 | .agg cs => cs.all AV.noFrs
 | .tup cs => cs.all AV.noFrs
 | .frs _ _ _ => false
 | .pel _ _ _ _ _ => false
 | .when _ _ => false
 | _ => true
theorem RelS.le (hC : Conc E G fr st a w) (hx : G.less G') {v : Value} {x y : AV} (h : RelS G v x) (hk : y.keeps = true) (hB : ∀ id off g, y = .ptr id off → G.B id = some g → G'.B id = some g) (hle : AVle st x y) : RelS G' v y := by
 cases hle with
 | agg hl =>
  obtain ⟨vs, e, h1, h2⟩ := h
  obtain ⟨h3, h4⟩ := cells_le hC hx h1 h2 (fun d hd => List.all_eq_true.1 hk d hd) hl
  exact ⟨vs, e, h3, h4⟩
 | one h1 =>
  have one : ∀ y : AV, y.noFrs = true → AVle1 st x y → (Rel1 G.σ v x.unown ∧ TagOk G v x) → Rel1 G'.σ v y.unown ∧ TagOk G' v y := fun y hn h1 h => cell_le hC hx h hn h1
  cases h1 with
  | any t esz l => exact one _ rfl (.any t esz l) h
  | own s ver esz l => exact one _ rfl (.own s ver esz l) h
  | frz id esz cap rows sp hb hro hmp => exact one _ rfl (.frz id esz cap rows sp hb hro hmp) h
  | top _ ht => cases x <;> first | (cases ht; done) | exact one _ rfl (.top _ ht) h
  | refl =>
   cases x with
   | agg cs =>
    obtain ⟨vs, e, h1, h2⟩ := h
    obtain ⟨h3, h4⟩ := cells_le hC hx h1 h2 (fun d hd => List.all_eq_true.1 hk d hd) (leL_refl cs)
    exact ⟨vs, e, h3, h4⟩
   | tup l =>
    obtain ⟨vs, e, h1, h2⟩ := h
    exact ⟨vs, e, h1, fun j u y hu hy => (h2 j u y hu hy).less hx (List.all_eq_true.1 hk y (List.mem_of_getElem? hy))⟩
   | ptr id off =>
    obtain ⟨g, h1, h2⟩ := h
    exact ⟨g, hB id off g rfl h1, h2⟩
   | when c x => cases hk
   | frs k esz rows => cases hk
   | pel id esz i k c => cases hk
   | int k n => exact one _ rfl (.refl _) h
   | bool b => exact one _ rfl (.refl _) h
   | str b => exact one _ rfl (.refl _) h
   | lst t esz l => exact one _ rfl (.refl _) h
   | ro cs => exact one _ rfl (.refl _) h
   | fn f cap => exact one _ rfl (.refl _) h
   | raw v => exact one _ rfl (.refl _) h
   | top => exact one _ rfl (.refl _) h
   | sli id esz n cap => exact one _ rfl (.refl _) h
   | np id off => exact one _ rfl (.refl _) h
end
def frOf : List (Nat × AV) → Fr
 | [] => fun _ => none
 | (s, x) :: L => upd (frOf L) s (some x)
def boxOf : List (Nat × List AV × Bool) → Nat → Option (List AV × Bool)
 | [] => fun _ => none
 | (s, x) :: L => upd (boxOf L) s (some x)
theorem frOf_mem : ∀ {L : List (Nat × AV)} {s : Nat} {x : AV}, frOf L s = some x → (s, x) ∈ L
 | [], s, x, h => by cases h
 | (s', y) :: L, s, x, h => by
  simp only [frOf, upd_at] at h
  split at h
  ·rename_i e; cases h; subst e; simp
  ·exact List.mem_cons_of_mem _ (frOf_mem h)
theorem boxOf_mem : ∀ {L : List (Nat × List AV × Bool)} {s : Nat} {x : List AV × Bool}, boxOf L s = some x → (s, x) ∈ L
 | [], s, x, h => by cases h
 | (s', y) :: L, s, x, h => by
  simp only [boxOf, upd_at] at h
  split at h
  ·rename_i e; cases h; subst e; simp
  ·exact List.mem_cons_of_mem _ (boxOf_mem h)
def slotsLe (st : St) (fr : Fr) : List (Nat × AV) → Prop
 | [] => True
 | (s, x) :: L => (∃ v, fr s = some v ∧ AVle st v x) ∧ slotsLe st fr L
def boxesLe (st : St) : List (Nat × List AV × Bool) → Prop
 | [] => True
 | (s, cs, fz) :: L => (∃ ds, st.box s = some (ds, fz) ∧ leL st ds cs) ∧ boxesLe st L
def ptrOk (L : List (Nat × AV)) (BL : List (Nat × List AV × Bool)) : Bool := (L.all fun x => match x.2 with
 | .ptr id _ => BL.any fun y => Nat.beq y.1 id
 | a => a.keeps) && BL.all fun y => match Nat.ble 1000000 y.1 with
 | true => true
 | false => y.2.1.all AV.noFrs
def privOk : List (Nat × List AV × Bool) → Prop
 | [] => True
 | (s, cs, _) :: L => match Nat.ble 1000000 s with
  | true => cs.map AV.unown = cs ∧ privOk L
  | false => privOk L
theorem slotsLe_mem {st : St} {fr : Fr} : ∀ {L : List (Nat × AV)}, slotsLe st fr L → ∀ x ∈ L, ∃ v, fr x.1 = some v ∧ AVle st v x.2
 | [], _, x, hx => by cases hx
 | y :: L, h, x, hx => by
  rcases List.mem_cons.1 hx with rfl | hx
  ·exact h.1
  ·exact slotsLe_mem h.2 x hx
theorem boxesLe_mem {st : St} : ∀ {L : List (Nat × List AV × Bool)}, boxesLe st L → ∀ x ∈ L, ∃ ds, st.box x.1 = some (ds, x.2.2) ∧ leL st ds x.2.1
 | [], _, x, hx => by cases hx
 | y :: L, h, x, hx => by
  rcases List.mem_cons.1 hx with rfl | hx
  ·exact h.1
  ·exact boxesLe_mem h.2 x hx
theorem noFrs_unown {cs : List AV} (h : cs.map AV.unown = cs) : ∀ d ∈ cs, d.noFrs = true := by
 intro d hd
 obtain ⟨j, hj⟩ := List.getElem?_of_mem hd
 have : (cs.map AV.unown)[j]? = some d := by rw [h]; exact hj
 rw [List.getElem?_map, hj] at this
 simp only [Option.map_some, Option.some.injEq] at this
 cases d <;> first | rfl | cases this
theorem box_noFrs {L : List (Nat × AV)} : ∀ {BL : List (Nat × List AV × Bool)}, ptrOk L BL = true → privOk BL → ∀ y ∈ BL, ∀ d ∈ y.2.1, d.noFrs = true := by
 intro BL hp hpr y hy
 have h1 : ∀ z ∈ BL, (match Nat.ble 1000000 z.1 with | true => true | false => z.2.1.all AV.noFrs) = true := by
  unfold ptrOk at hp
  rw [Bool.and_eq_true] at hp
  exact List.all_eq_true.1 hp.2
 have h2 := h1 y hy
 cases hb : Nat.ble 1000000 y.1 with
 | false => rw [hb] at h2; exact List.all_eq_true.1 h2
 | true =>
  have h3 : ∀ (BL : List (Nat × List AV × Bool)), privOk BL → ∀ y ∈ BL, Nat.ble 1000000 y.1 = true → y.2.1.map AV.unown = y.2.1 := by
   intro BL
   induction BL with
   | nil => intro _ y hy; cases hy
   | cons z L ih =>
    intro hz y hy hb
    obtain ⟨s, cs, fz⟩ := z
    unfold privOk at hz
    rcases List.mem_cons.1 hy with rfl | hy
    ·simp only at hb
     rw [hb] at hz
     exact hz.1
    ·split at hz
     ·exact ih hz.2 y hy hb
     ·exact ih hz y hy hb
  exact noFrs_unown (h3 BL hpr y hy hb)
theorem boxOf_some : ∀ {L : List (Nat × List AV × Bool)} {s : Nat} {x : Nat × List AV × Bool}, x ∈ L → x.1 = s → boxOf L s ≠ none
 | y :: L, s, x, h, e => by
  simp only [boxOf, upd_at]
  by_cases he : s = y.1
  ·rw [if_pos he]; simp
  ·rw [if_neg he]
   rcases List.mem_cons.1 h with rfl | h
   ·exact absurd e.symm he
   ·exact boxOf_some h e
theorem Weak.intro {fr : Fr} {st : St} {L : List (Nat × AV)} {BL : List (Nat × List AV × Bool)} {row : Nat → Nat} (h1 : slotsLe st fr L) (h2 : boxesLe st BL) (h3 : st.row = row) (h4 : ptrOk L BL = true) (h5 : privOk BL := by trivial) : Weak fr st (frOf L) ⟨boxOf BL, row⟩ := by
 intro E G a w h
 subst h3
 have hB' : ∀ id g, (if boxOf BL id = none then none else G.B id) = some g → G.B id = some g := fun id g hg => by
  split at hg
  ·cases hg
  ·exact hg
 have hx : G.less { G with B := fun id => if boxOf BL id = none then none else G.B id, φ := fun _ => none } := ⟨rfl, rfl, hB'⟩
 refine ⟨{ G with B := fun id => if boxOf BL id = none then none else G.B id, φ := fun _ => none },
  { defers := h.defers
    size := h.size
    slots := fun s x hs => ?_
    hold := h.hold
    ext := h.ext
    below := h.below
    box := fun id cs fz hs => ?_
    bnone := fun id hs => by simp only at hs ⊢; rw [if_pos hs]
    binj := fun id id' g h1 h2 => h.binj id id' g (hB' id g h1) (hB' id' g h2)
    row := fun s r hs => ⟨(h.row s r hs).1, fun id hid => (h.row s r hs).2 id (hB' id _ hid)⟩
    rinj := h.rinj
    rlt := h.rlt
    phi := fun k x hk => by cases hk
    phinj := fun k k' x x' hk => by cases hk
    pnone := fun _ _ => rfl
    small := h.small
    keep := fun id g h1 h2 => h.keep id g h1 (hB' id g h2) }⟩
 ·have hm := frOf_mem hs
  obtain ⟨v0, hv0, hvle⟩ := slotsLe_mem h1 _ hm
  have hp0 := h4
  unfold ptrOk at hp0
  rw [Bool.and_eq_true] at hp0
  have hp := List.all_eq_true.1 hp0.1 _ hm
  simp only at hp hvle
  refine (h.slots s v0 hv0).le h hx ?_ (fun id off g e hg => ?_) hvle
  ·cases x <;> first | rfl | exact hp
  ·subst e
   simp only [List.any_eq_true] at hp
   obtain ⟨y, hy, hyb⟩ := hp
   simp only
   rw [if_neg (boxOf_some hy (Nat.eq_of_beq_eq_true hyb))]
   exact hg
 ·have hm := boxOf_mem hs
  obtain ⟨ds, hds, hdle⟩ := boxesLe_mem h2 _ hm
  obtain ⟨g, k1, k2, t, vs, k3, k4, k5, k6⟩ := h.box id ds fz hds
  obtain ⟨q1, q2⟩ := cells_le h hx k4 k5 (box_noFrs h4 h5 _ hm) hdle
  refine ⟨g, ?_, k2, t, vs, k3, q1, q2, k6⟩
  simp only at hs ⊢
  rw [if_neg (by rw [hs]; simp)]
  exact k1
theorem Weak.fz {fr : Fr} {st : St} {id : Nat} {cs : List AV} (hb : st.box id = some (cs, false)) (hmp : isMp id = false) : Weak fr st fr { st with box := upd st.box id (some (cs, true)) } := by
 intro E G a w h
 obtain ⟨g, hB, _⟩ := h.box id cs false hb
 obtain ⟨σ', _, h2, _⟩ := h.freezeBox hb hmp hB
 exact ⟨_, h2⟩
def opnC (d id cap : Nat) : AV → AV
 | .frs k esz rows => match Nat.beq k d with
  | true => .sli id esz rows.length cap
  | false => .frs k esz rows
 | .sli i esz n c => match Nat.beq i id with
  | true => .top
  | false => .sli i esz n c
 | .np i off => match Nat.beq i id with
  | true => .top
  | false => .np i off
 | a => a
def opnA (d id cap : Nat) : AV → AV
 | .agg cs => .agg (cs.map (opnC d id cap))
 | .tup l => .tup (l.map (opnC d id cap))
 | .pel i esz j k c => match Nat.beq i id with
  | true => .top
  | false => .pel i esz j k c
 | a => opnC d id cap a
def opnS (d id cap : Nat) : AV → AV
 | .when c a => .when c (opnA d id cap a)
 | a => opnA d id cap a
def opnF (d id cap : Nat) (fr : Fr) : Fr := fun s => match fr s with
 | some a => some (opnS d id cap a)
 | none => none
def opnB (d id cap : Nat) (cs : List AV) (st : St) : St := ⟨fun k => match Nat.beq k id with
 | true => some (cs, false)
 | false => match st.box k with
  | some (ds, fz) => some (ds.map (opnC d id cap), fz)
  | none => none, st.row⟩
theorem opnC_rel {G : Gho} {d id cap g esz : Nat} {rows : List (List AV)} (hid : 1000000 ≤ id) (hBn : ∀ j, G.B id ≠ some j) (hd : G.φ d = some ⟨g, cap, esz, rows⟩) (hle : rows.length ≤ cap) {v : Value} {x : AV} (h : Rel1 G.σ v x.unown ∧ TagOk G v x) :
  Rel1 G.σ v (opnC d id cap x).unown ∧ TagOk { G with B := upd G.B id (some g), φ := upd G.φ d none } v (opnC d id cap x) := by
 cases x with
 | frs k e r =>
  simp only [opnC]
  cases hk : Nat.beq k d with
  | true =>
   have := Nat.eq_of_beq_eq_true hk
   subst this
   obtain ⟨h1, g', cap', h2, h3⟩ := h
   rw [hd] at h2
   cases h2
   exact ⟨h1, hid, hle, g, h3, fun g' hg' => by simp only [upd_same] at hg'; cases hg'; rfl⟩
  | false =>
   obtain ⟨h1, g', cap', h2, h3⟩ := h
   refine ⟨h1, g', cap', ?_, h3⟩
   simp only
   rw [upd_ne _ _ (fun e => by rw [e, Nat.beq_refl] at hk; cases hk)]
   exact h2
 | sli i e n c =>
  simp only [opnC]
  cases hk : Nat.beq i id with
  | true => exact ⟨h.1, trivial⟩
  | false =>
   obtain ⟨h1, h2, h3, g', h4, h5⟩ := h
   refine ⟨h1, h2, h3, g', h4, fun g'' hg'' => h5 g'' ?_⟩
   simp only at hg''
   rw [upd_ne _ _ (fun e => by rw [e, Nat.beq_refl] at hk; cases hk)] at hg''
   exact hg''
 | np i off =>
  simp only [opnC]
  cases hk : Nat.beq i id with
  | true => exact ⟨h.1, trivial⟩
  | false =>
   obtain ⟨h1, h2, g', h4, h5⟩ := h
   refine ⟨h1, h2, g', h4, fun g'' hg'' => h5 g'' ?_⟩
   simp only at hg''
   rw [upd_ne _ _ (fun e => by rw [e, Nat.beq_refl] at hk; cases hk)] at hg''
   exact hg''
 | lst t e l => cases t <;> exact h
 | _ => exact h
theorem opnT_rel {G : Gho} {d id cap g esz : Nat} {rows : List (List AV)} (hid : 1000000 ≤ id) (hBn : ∀ j, G.B id ≠ some j) (hd : G.φ d = some ⟨g, cap, esz, rows⟩) (hle : rows.length ≤ cap) {v : Value} {x : AV} (h : RelT G v x) :
  RelT { G with B := upd G.B id (some g), φ := upd G.φ d none } v (opnC d id cap x) := by
 cases x with
 | sli i e n c =>
  have := opnC_rel (v := v) (x := .sli i e n c) hid hBn hd hle h
  simp only [opnC] at this ⊢
  cases hk : Nat.beq i id with
  | true => exact h.1
  | false => rw [hk] at this; exact this
 | np i off =>
  have := opnC_rel (v := v) (x := .np i off) hid hBn hd hle h
  simp only [opnC] at this ⊢
  cases hk : Nat.beq i id with
  | true => exact h.1
  | false => rw [hk] at this; exact this
 | frs k e r =>
  have := opnC_rel (v := v) (x := .frs k e r) hid hBn hd hle h
  simp only [opnC] at this ⊢
  split <;> (rename_i hk; rw [hk] at this; exact this)
 | _ => exact h
theorem opnCs_rel {G : Gho} {d id cap g esz : Nat} {rows : List (List AV)} (hid : 1000000 ≤ id) (hBn : ∀ j, G.B id ≠ some j) (hd : G.φ d = some ⟨g, cap, esz, rows⟩) (hle : rows.length ≤ cap) {vs : List Value} {cs : List AV} (h : RelL G.σ vs (cs.map AV.unown)) (ht : TagsOk G vs cs) :
  RelL G.σ vs ((cs.map (opnC d id cap)).map AV.unown) ∧ TagsOk { G with B := upd G.B id (some g), φ := upd G.φ d none } vs (cs.map (opnC d id cap)) := by
 have key : ∀ (j : Nat) v b, vs[j]? = some v → cs[j]? = some b → _ := fun j v b hv hb => opnC_rel (v := v) (x := b) hid hBn hd hle ⟨h.2 j v _ hv (by rw [List.getElem?_map, hb]; rfl), ht j v b hv hb⟩
 refine ⟨⟨by have := h.1; simpa using this, fun j v b hv hb => ?_⟩, fun j v b hv hb => ?_⟩
 ·rw [List.map_map, List.getElem?_map] at hb
  cases hc : cs[j]? with
  | none => rw [hc] at hb; cases hb
  | some c => rw [hc] at hb; cases hb; exact (key j v c hv hc).1
 ·rw [List.getElem?_map] at hb
  cases hc : cs[j]? with
  | none => rw [hc] at hb; cases hb
  | some c => rw [hc] at hb; cases hb; exact (key j v c hv hc).2
theorem opnA_rel {G : Gho} {d id cap g esz : Nat} {rows : List (List AV)} (hid : 1000000 ≤ id) (hBn : ∀ j, G.B id ≠ some j) (hd : G.φ d = some ⟨g, cap, esz, rows⟩) (hle : rows.length ≤ cap) {v : Value} {x : AV} (h : RelS0 G v x) :
  RelS0 { G with B := upd G.B id (some g), φ := upd G.φ d none } v (opnA d id cap x) := by
 have one : ∀ x : AV, (Rel1 G.σ v x.unown ∧ TagOk G v x) → _ := fun x hx => opnC_rel (v := v) (x := x) hid hBn hd hle hx
 cases x with
 | agg cs =>
  obtain ⟨vs, e, h1, h2⟩ := h
  obtain ⟨h3, h4⟩ := opnCs_rel hid hBn hd hle h1 h2
  exact ⟨vs, e, h3, h4⟩
 | pel i e j k c =>
  obtain ⟨h1, g', h2, h3⟩ := h
  simp only [opnA]
  cases hk : Nat.beq i id with
  | true => exact ⟨(by rw [h2]; exact .top _ rfl : Rel1 G.σ v .top), trivial⟩
  | false =>
   refine ⟨h1, g', h2, fun g'' hg'' => h3 g'' ?_⟩
   simp only at hg''
   rw [upd_ne _ _ (fun e => by rw [e, Nat.beq_refl] at hk; cases hk)] at hg''
   exact hg''
 | ptr i off =>
  obtain ⟨g', h1, h2, h3⟩ := h
  refine ⟨g', ?_, h2, h3⟩
  simp only
  rw [upd_ne _ _ (by omega)]
  exact h1
 | tup l =>
  obtain ⟨vs, e, h1, h2⟩ := h
  refine ⟨vs, e, by rw [h1, List.length_map], fun j u x hu hx => ?_⟩
  rw [List.getElem?_map] at hx
  cases hl : l[j]? with
  | none => rw [hl] at hx; cases hx
  | some y => rw [hl] at hx; cases hx; exact opnT_rel hid hBn hd hle (h2 j u y hu hl)
 | when c x => exact h.elim
 | np i off =>
  have := one _ h
  simp only [opnA, opnC] at this ⊢
  split <;> (rename_i hk; rw [hk] at this; exact this)
 | frs k e r =>
  have := one _ h
  simp only [opnA, opnC] at this ⊢
  split <;> (rename_i hk; rw [hk] at this; exact this)
 | sli i e n c =>
  have := one _ h
  simp only [opnA, opnC] at this ⊢
  split <;> (rename_i hk; rw [hk] at this; exact this)
 | int k n => exact one _ h
 | bool b => exact one _ h
 | str b => exact one _ h
 | lst t e l => exact one _ h
 | ro cs => exact one _ h
 | fn f cap => exact one _ h
 | raw v => exact one _ h
 | top => exact one _ h
theorem noWhen {G : Gho} {v : Value} {x : AV} (h : RelS0 G v x) : RelS G v x := by
 cases x <;> first | exact h | exact h.elim
theorem opnS_rel {G : Gho} {d id cap g esz : Nat} {rows : List (List AV)} (hid : 1000000 ≤ id) (hBn : ∀ j, G.B id ≠ some j) (hd : G.φ d = some ⟨g, cap, esz, rows⟩) (hle : rows.length ≤ cap) {v : Value} {x : AV} (h : RelS G v x) :
  RelS { G with B := upd G.B id (some g), φ := upd G.φ d none } v (opnS d id cap x) := by
 cases x with
 | when c a => exact ⟨fun hc => opnA_rel hid hBn hd hle (h.1 hc), h.2⟩
 | _ => exact noWhen (opnA_rel hid hBn hd hle (by simp only [RelS] at h; exact h))
theorem Conc.open {E : Env} {G : Gho} {fr : Fr} {st : St} {ac : Act} {w : World} (hC : Conc E G fr st ac w) (s d id : Nat) {esz : Nat} {rows : List (List AV)} (hd : fr s = some (.frs d esz rows)) (hid : 1000000 ≤ id) (hfree : st.box id = none) (hid2 : id < 2000000) (hmp : isMp id = false) :
  ∃ cap m, rows.length ≤ cap ∧ (rows.flatten ++ List.replicate m AV.top).length = cap * esz ∧ ∃ G', Conc E G' (opnF d id cap fr) (opnB d id cap (rows.flatten ++ List.replicate m AV.top) st) ac w := by
 obtain ⟨_, g, cap, hφ, hv⟩ := hC.slots s _ hd
 obtain ⟨⟨hge, e, cur, hg, hsz, hcap, hlen, hr, hone, hfr⟩, hB, hρ⟩ := hC.phi d _ hφ
 simp only at hge hg hsz hcap hlen hr hfr hB hρ
 have hBn : ∀ j, G.B id ≠ some j := fun j hj => by rw [hC.bnone id hfree] at hj; cases hj
 have hfl : rows.flatten.length = rows.length * esz := by
  have : ∀ l : List (List AV), (∀ c ∈ l, c.length = esz) → l.flatten.length = l.length * esz := by
   intro l
   induction l with
   | nil => intro _; simp
   | cons x l ih => intro hx; rw [List.flatten_cons, List.length_append, List.length_cons, ih fun c hc => hx c (by simp [hc]), hx x (by simp), Nat.add_mul]; omega
  exact this rows hlen
 have hle : rows.length * esz ≤ cap * esz := Nat.mul_le_mul_right _ hcap
 have hm : (rows.flatten ++ List.replicate (cap * esz - rows.length * esz) AV.top).length = cap * esz := by rw [List.length_append, List.length_replicate, hfl]; omega
 refine ⟨cap, cap * esz - rows.length * esz, hcap, hm, { G with B := upd G.B id (some g), φ := upd G.φ d none }, ?_⟩
 have hBup : ∀ id' g', upd G.B id (some g) id' = some g' → (id' = id ∧ g' = g) ∨ (id' ≠ id ∧ G.B id' = some g') := fun id' g' hg' => by
  rw [upd_at] at hg'
  split at hg'
  ·rename_i e; cases hg'; exact .inl ⟨e, rfl⟩
  ·rename_i e; exact .inr ⟨e, hg'⟩
 exact
 { defers := hC.defers
   size := hC.size
   slots := fun s x hs => by
    unfold opnF at hs
    split at hs
    ·rename_i y hy
     cases hs
     exact opnS_rel hid hBn hφ hcap (hC.slots s y hy)
    ·cases hs
   hold := hC.hold
   ext := hC.ext
   below := hC.below
   box := fun id' cs fz hs => by
    simp only [opnB] at hs
    split at hs
    ·rename_i hb
     have := Nat.eq_of_beq_eq_true hb
     subst this
     cases hs
     refine ⟨g, upd_same _ _ _, hge, e, cur, .mk hmp hg, ?_, ?_, fun j => hfr j⟩
     ·rw [List.map_append]
      have h1 : RelL G.σ (cur.toList.take (rows.length * esz) ++ cur.toList.drop (rows.length * esz)) (rows.flatten ++ List.replicate (cap * esz - rows.length * esz) AV.top) := by
       refine hr.append ⟨by rw [List.length_drop, List.length_replicate]; simp [hsz], fun j v x hv hx => ?_⟩
       have hx2 : x = .top := by rw [List.getElem?_replicate] at hx; split at hx <;> cases hx; rfl
       subst hx2
       exact .top v (hone v (List.mem_of_mem_drop (List.mem_of_getElem? hv)))
      rw [List.take_append_drop] at h1
      rw [← List.map_append, h1.map_unown]
      exact h1
     ·intro j v x hv hx
      by_cases hj : j < rows.flatten.length
      ·rw [List.getElem?_append_left hj] at hx
       have hvj : (cur.toList.take (rows.length * esz))[j]? = some v := by rw [List.getElem?_take, if_pos (by omega)]; exact hv
       exact (RelL.tags (G := { G with B := upd G.B id' (some g), φ := upd G.φ d none }) hr) j v x hvj hx
      ·rw [List.getElem?_append_right (by omega), List.getElem?_replicate] at hx
       split at hx <;> cases hx
       trivial
    ·rename_i hb
     have hne : id' ≠ id := fun e => by rw [e, Nat.beq_refl] at hb; cases hb
     split at hs
     ·rename_i ds fz' hds'
      cases hs
      obtain ⟨g2, k1, k2, t2, vs2, k3, k4, k5, k6⟩ := hC.box id' ds fz hds'
      obtain ⟨q1, q2⟩ := opnCs_rel hid hBn hφ hcap k4 k5
      exact ⟨g2, by simp only; rw [upd_ne _ _ hne]; exact k1, k2, t2, vs2, k3, q1, q2, k6⟩
     ·cases hs
   bnone := fun id' hs => by
    simp only [opnB] at hs ⊢
    split at hs
    ·cases hs
    ·rename_i hb
     have hne : id' ≠ id := fun e => by rw [e, Nat.beq_refl] at hb; cases hb
     rw [upd_ne _ _ hne]
     split at hs
     ·cases hs
     ·rename_i hn; exact hC.bnone id' hn
   binj := fun id1 id2 g' h1 h2 => by
    rcases hBup _ _ h1 with ⟨e1, e2⟩ | ⟨e1, e2⟩ <;> rcases hBup _ _ h2 with ⟨e3, e4⟩ | ⟨e3, e4⟩
    ·rw [e1, e3]
    ·subst e2; exact absurd e4 (hB id2)
    ·subst e4; exact absurd e2 (hB id1)
    ·exact hC.binj id1 id2 g' e2 e4
   row := fun s r hs => ⟨(hC.row s r hs).1, fun id' hid' => by
    rcases hBup _ _ hid' with ⟨_, e2⟩ | ⟨_, e2⟩
    ·exact hρ s r hs e2
    ·exact (hC.row s r hs).2 id' e2⟩
   rinj := hC.rinj
   rlt := hC.rlt
   phi := fun k' x hk => by
    simp only at hk
    rw [upd_at] at hk
    split at hk
    ·cases hk
    ·rename_i hne
     obtain ⟨h1, h2, h3⟩ := hC.phi k' x hk
     refine ⟨h1, fun id' hid' => ?_, h3⟩
     rcases hBup _ _ hid' with ⟨_, e2⟩ | ⟨_, e2⟩
     ·exact hne (hC.phinj k' d x _ hk hφ e2)
     ·exact h2 id' e2
   phinj := fun k1 k2 x x' h1 h2 => by
    simp only at h1 h2
    rw [upd_at] at h1 h2
    split at h1
    ·cases h1
    ·split at h2
     ·cases h2
     ·exact hC.phinj k1 k2 x x' h1 h2
   pnone := fun k' hk => by
    simp only
    rw [upd_at]
    split
    ·rfl
    ·refine hC.pnone k' ?_
     unfold opnF at hk
     split at hk
     ·cases hk
     ·assumption
   small := hC.small
   keep := fun id' g' h1 h2 => by
    rcases hBup _ _ h2 with ⟨e1, _⟩ | ⟨_, e2⟩
    ·omega
    ·exact hC.keep id' g' h1 e2 }
theorem AK.open {P : Program} {E : Env} {Q : Exit → Fr → St → Prop} {k : List AItem} {fr : Fr} {st : St} {a : ACode} (s d id : Nat) {esz : Nat} {rows : List (List AV)} (hd : fr s = some (.frs d esz rows)) (hid : 1000000 ≤ id) (hfree : st.box id = none)
  (h : ∀ cap m, rows.length ≤ cap → (rows.flatten ++ List.replicate m AV.top).length = cap * esz → AK P E Q (.c a :: k) (opnF d id cap fr) (opnB d id cap (rows.flatten ++ List.replicate m AV.top) st)) (hid2 : id < 2000000 := by omega) (hmp : isMp id = false := by rfl) : AK P E Q (.c a :: k) fr st := by
 intro hds mu c G ac w hc hd2 hC
 obtain ⟨cap, m, h1, h2, G', hC'⟩ := hC.open s d id hd hid hfree hid2 hmp
 exact h cap m h1 h2 hds mu c G' ac w hc hd2 hC'
theorem AK.fz {P : Program} {E : Env} {Q : Exit → Fr → St → Prop} {k : List AItem} {fr : Fr} {st : St} {a : ACode} (id : Nat) {cs : List AV} (hb : st.box id = some (cs, false)) (h : AK P E Q (.c a :: k) fr { st with box := upd st.box id (some (cs, true)) }) (hmp : isMp id = false := by rfl) : AK P E Q (.c a :: k) fr st := AK.weak (Weak.fz hb hmp) h
def ldAV (cs : List AV) (n : Nat) (agg : Bool) : Option AV := match agg with
 | true => match takeN n cs with
  | some cs => some (.agg cs)
  | none => none
 | false => getN 0 cs
def resVal (fr : Fr) (st : St) : ARes → Option AV
 | .tmp t => fr t
 | .cell t n agg => match fr t with
  | some (.ptr id off) => match st.cbox id with
   | some (cs, _) => match dropN off cs with
    | some cs => ldAV cs n agg
    | none => none
   | none => none
  | _ => none
def resValsG (f : AV → Option AV) (fr : Fr) (st : St) : List ARes → Option (List AV)
 | [] => some []
 | r :: l => match resVal fr st r, resValsG f fr st l with
  | some a, some as => match f a with
   | some x => some (x :: as)
   | none => none
  | _, _ => none
def AV.argN : AV → Option AV
 | .np id off => some (.np id off)
 | .ptr id off => some (.np id off)
 | .sli id e n c => some (.sli id e n c)
 | a => a.arg
def resOne : List AV → AV
 | [a] => a
 | l => .tup l
def boxesN (st : St) : List (Nat × List AV) → Prop
 | [] => True
 | (id, cs) :: l => (∃ ds, st.box id = some (ds, false) ∧ ds.map AV.told = cs) ∧ boxesN st l
def RQS (res : List ARes) (S' : List (Nat × List AV)) (r : AV) : Exit → Fr → St → Prop
 | .normal, fr, st | .ret, fr, st => (∃ l, resValsG AV.argN fr st res = some l ∧ resOne l = r) ∧ boxesN st S'
 | _, _, _ => False
def RQF (g : AV → Option AV) (res : List ARes) (r : AV) : Exit → Fr → St → Prop
 | .normal, fr, st | .ret, fr, st => ∃ l, resValsG g fr st res = some l ∧ resOne l = r
 | _, _, _ => False
abbrev RQ (res : List ARes) (r : AV) : Exit → Fr → St → Prop := RQF AV.arg res r
section
variable {P : Program} {mu : List Nat} {E : Env} {G : Gho} {fr fr' : Fr} {st st' : St} {a : Act} {w : World}
def resSem (tmps : Array Value) (r : ResultVar) : Sem Value :=
 match r with
 | .tmp t => pure (tmps.getD t undef)
 | .cell a t => do loadVar t (← asAddr (tmps.getD a undef))
theorem res_run (h : Conc E G fr st a w) {f : AV → Option AV} {R : Value → AV → Prop} (hR : ∀ v c x, RelS G v c → f c = some x → R v x) : ∀ {rs : List ResultVar} {ars : List ARes} {l : List AV}, resOf P rs = some ars → resValsG f fr st ars = some l →
  ∃ vs : List Value, (rs.mapM (resSem a.tmps)).run P w = .ok vs w ∧ vs.length = l.length ∧ ∀ (j : Nat) v x, vs[j]? = some v → l[j]? = some x → R v x
 | [], ars, l, h1, h2 => by
  cases h1
  cases h2
  exact ⟨[], by simp, rfl, fun j v x hv => by simp at hv⟩
 | .tmp t :: rs, ars, l, h1, h2 => by
  unfold resOf at h1
  split at h1
  ·rename_i r hr
   cases h1
   unfold resValsG at h2
   split at h2
   ·rename_i c as hc has
    split at h2
    ·rename_i x hx
     cases h2
     obtain ⟨vs, k1, k2, k3⟩ := res_run h hR hr has
     refine ⟨a.tmps.getD t undef :: vs, by simp only [List.mapM_cons, resSem, Sem.run_bind, Sem.run_pure, Result.andThen_ok, k1], by simp [k2], fun j v y hv hy => ?_⟩
     cases j with
     | zero => cases hv; cases hy; exact hR _ _ _ (h.slots t c hc) hx
     | succ j => exact k3 j v y (by simpa using hv) (by simpa using hy)
    ·cases h2
   ·cases h2
  ·cases h1
 | .cell c t :: rs, ars, l, h1, h2 => by
  unfold resOf at h1
  split at h1
  ·rename_i inf r hinf hr
   split at h1
   ·rename_i hu
    cases h1
    unfold resValsG at h2
    split at h2
    ·rename_i av as hc has
     split at h2
     ·rename_i x hx
      cases h2
      obtain ⟨vs, k1, k2, k3⟩ := res_run h hR hr has
      simp only [resVal] at hc
      split at hc
      ·rename_i id off hp
       obtain ⟨g, hB, hpv, _⟩ := h.slots c _ hp
       split at hc
       ·rename_i cs fz hb
        obtain ⟨hb, hmp⟩ := cbox_some hb
        obtain ⟨g', hB', q1, ty, us, hg, hrl, htg, hfz⟩ := h.box id cs fz hb
        replace hg := hg.cells hmp
        rw [hB] at hB'
        cases hB'
        split at hc
        ·rename_i cs' hdr
         obtain ⟨hd1, hd2⟩ := dropN_spec hdr
         have hL := load_rel (P := P) (G := G) hu hinf (box_cells hg off) (cs := cs') (by rw [hd1, List.map_drop]; exact hrl.drop off) (fun j u c hu' hc' => by rw [hd1] at hc'; exact htg (off + j) u c (by simpa using hu') (by simpa using hc'))
         have key : ∃ v, (loadVar t ⟨g, off, none⟩).run P w = .ok v w ∧ RelS G v av := by
          unfold ldAV at hc
          split at hc
          ·rename_i ha
           split at hc
           ·rename_i cs2 htk; cases hc; exact hL.1 _ ha htk
           ·cases hc
          ·rename_i ha; exact hL.2 _ ha hc
         obtain ⟨v, hrun, hrel⟩ := key
         refine ⟨v :: vs, ?_, by simp [k2], fun j u y hv hy => ?_⟩
         ·simp only [List.mapM_cons, resSem, Sem.run_bind, hpv, asAddr, Sem.run_pure, Result.andThen_ok, hrun, k1]
         ·cases j with
          | zero => simp at hv hy; subst hv hy; exact hR _ _ _ hrel hx
          | succ j => exact k3 j u y (by simpa using hv) (by simpa using hy)
        ·cases hc
       ·cases hc
      ·cases hc
     ·cases h2
    ·cases h2
   ·cases h1
  ·cases h1
def argFr : Nat → List AV → Fr
 | _, [] => fun _ => none
 | k, a :: l => upd (argFr (k + 1) l) k (some a)
theorem argFr_at : ∀ {l : List AV} {k s : Nat} {x : AV}, argFr k l s = some x → k ≤ s ∧ l[s - k]? = some x
 | [], k, s, x, h => by cases h
 | a :: l, k, s, x, h => by
  simp only [argFr, upd_at] at h
  split at h
  ·rename_i e; cases h; subst e; simp
  ·obtain ⟨h1, h2⟩ := argFr_at h
   refine ⟨by omega, ?_⟩
   rw [show s - k = (s - (k + 1)) + 1 by omega]
   simpa using h2
theorem RelS.ofP {v : Value} {r : AV} (h : RelP G.σ v r) : RelS G v r := by
 cases r <;> first
  | exact RelS.of1 h
  | (obtain ⟨us, he, h4⟩ := h; exact ⟨us, he, by rw [h4.map_unown]; exact h4, h4.tags⟩)
theorem RelR.ofP {σ : Sg} {v : Value} {x : AV} (h : RelP σ v x) (hx : x.isTup = false) : RelR σ v x := by cases x <;> first | exact h | cases hx
def boxS : List (Nat × List AV) → Nat → Option (List AV × Bool)
 | [], _ => none
 | (i, cs) :: l, id => match Nat.beq i id with
  | true => some (cs, false)
  | false => boxS l id
theorem boxS_mem : ∀ {S : List (Nat × List AV)} {id : Nat} {x : List AV × Bool}, boxS S id = some x → (id, x.1) ∈ S ∧ x.2 = false
 | (i, c) :: l, id, x, h => by
  unfold boxS at h
  split at h
  ·rename_i hb; cases h; rw [Nat.eq_of_beq_eq_true hb]; exact ⟨by simp, rfl⟩
  ·obtain ⟨h1, h2⟩ := boxS_mem h; exact ⟨List.mem_cons_of_mem _ h1, h2⟩
theorem boxS_none : ∀ {S : List (Nat × List AV)} {id : Nat}, boxS S id = none → id ∉ domS S
 | [], id, _ => by simp [domS]
 | (i, c) :: l, id, h => by
  unfold boxS at h
  split at h
  ·cases h
  ·rename_i hb
   have : id ≠ i := fun e => by rw [e, Nat.beq_refl] at hb; cases hb
   have ih := boxS_none h
   show id ∉ i :: domS l
   simp [this, ih]
def AV.okIn : AV → Bool
 | .np id _ => Nat.ble 1000000 id
 | .sli id _ _ _ => Nat.ble 1000000 id
 | .lst t _ _ => match t with
  | .own _ _ => false
  | _ => true
 | .frs _ _ _ => false
 | _ => true
def okInS (S : List (Nat × List AV)) (args : List AV) : Bool := S.all (fun x => Nat.ble 2000000 x.1 && x.2.all AV.okIn) && args.all AV.okIn
theorem okIn_tag {G : Gho} {v : Value} {c : AV} (h : TagB G.B v c) (hk : c.okIn = true) : TagOk G v c := by
 cases c with
 | np i o => obtain ⟨g, h1, h2⟩ := h; exact ⟨Nat.le_of_ble_eq_true hk, g, h1, h2⟩
 | sli i e n c => obtain ⟨h0, g, h1, h2⟩ := h; exact ⟨Nat.le_of_ble_eq_true hk, h0, g, h1, h2⟩
 | lst t e l => cases t <;> first | trivial | cases hk
 | frs k e r => cases hk
 | _ => trivial
theorem okIn_arg {G : Gho} {v : Value} {c : AV} (h : RelB1 G.σ G.B v c) (hk : c.okIn = true) : RelS G v c := by
 cases c with
 | np i o => exact ⟨by obtain ⟨g, h1, _⟩ := h; rw [h1]; exact .top _ (npV_one _ _ _), okIn_tag h hk⟩
 | sli i e n c => exact ⟨by obtain ⟨_, g, h1, _⟩ := h; rw [h1]; exact .top _ rfl, okIn_tag h hk⟩
 | _ => exact RelS.ofP h
theorem boxesN_mem : ∀ {S : List (Nat × List AV)}, boxesN st S → ∀ x ∈ S, ∃ ds, st.box x.1 = some (ds, false) ∧ ds.map AV.told = x.2
 | [], _, x, hx => by cases hx
 | y :: l, h, x, hx => by
  rcases List.mem_cons.1 hx with rfl | hx
  ·exact h.1
  ·exact boxesN_mem h.2 x hx
theorem TagOk.toldB {B' : Nat → Option Nat} {v : Value} {c : AV} (hB : ∀ id g, B' id = some g → G.B id = some g) (h : TagOk G v c) : TagB B' v c.told := by
 cases c with
 | np i o => obtain ⟨_, g, h1, h2⟩ := h; exact ⟨g, h1, fun g' hg => h2 g' (hB _ _ hg)⟩
 | sli i e n c => obtain ⟨_, h0, g, h1, h2⟩ := h; exact ⟨h0, g, h1, fun g' hg => h2 g' (hB _ _ hg)⟩
 | lst t e l => cases t <;> exact trivial
 | _ => exact trivial
theorem argN_rel {B' : Nat → Option Nat} {v : Value} {c x : AV} (hB : ∀ id g, B' id = some g → G.B id = some g) (h : RelS G v c) (hx : c.argN = some x) : RelB1 G.σ B' v x := by
 cases c with
 | np i o => cases hx; obtain ⟨_, _, g, h1, h2⟩ := h; exact ⟨g, h1, fun g' hg => h2 g' (hB _ _ hg)⟩
 | sli i e n c => cases hx; obtain ⟨_, _, h0, g, h1, h2⟩ := h; exact ⟨h0, g, h1, fun g' hg => h2 g' (hB _ _ hg)⟩
 | ptr i o => cases hx; obtain ⟨g, h1, h2, h3⟩ := h; exact ⟨g, h2.trans (npV_ptr (isMp_lt h3) _ _).symm, fun g' hg => by have := hB _ _ hg; rw [h1] at this; cases this; rfl⟩
 | _ => exact .ofP (h.arg hx)
theorem argN_notup {f : AV} {x : AV} (h : f.argN = some x) : x.isTup = false := by
 cases f <;> first | (cases h; rfl) | cases h
def oneV (us : List Value) : Value := match us with
 | [u] => u
 | us => .tuple us.toArray
theorem res_val (h : Conc E G fr st a w) {fn : Func} {f : AV → Option AV} {R : Value → AV → Prop} (hR : ∀ v c x, RelS G v c → f c = some x → R v x) {ars : List ARes} {l : List AV} (h1 : resOf P fn.results.toList = some ars) (h2 : resValsG f fr st ars = some l) :
  ∃ us, (results fn a.tmps).run P w = .ok (oneV us) w ∧ us.length = l.length ∧ ∀ (j : Nat) v x, us[j]? = some v → l[j]? = some x → R v x := by
 obtain ⟨us, k1, k2, k3⟩ := res_run h hR h1 h2
 refine ⟨us, ?_, k2, k3⟩
 have hm : (fn.results.mapM (resSem a.tmps)).run P w = .ok us.toArray w := by
  rw [Array.mapM_eq_mapM_toList, Sem.run_map, k1]
  rfl
 have e : results fn a.tmps = (do let vs ← fn.results.mapM (resSem a.tmps); pure (if h : vs.size = 1 then vs[0] else .tuple vs)) := rfl
 rw [e, Sem.run_bind, hm]
 have e2 : (if h : us.toArray.size = 1 then us.toArray[0] else .tuple us.toArray) = oneV us := by
  rcases us with _ | ⟨u, _ | ⟨v, us⟩⟩
  ·rfl
  ·rfl
  ·rw [dif_neg (by simp)]; rfl
 rw [← e2]
 rfl
theorem calls_rawS {f : FuncId} {fn : Func} {af : AFn} {args : List AV} {S : List (Nat × List AV)} (hf : P.funcs[f]? = some fn) (haf : fnAF P mu fn = some af) (hlen : Nat.ble args.length af.n = true) (hokS : okInS S [] = true) {Q : Exit → Fr → St → Prop}
  (hbody : ∀ E : Env, E.n = af.n → AK P E Q [.c af.body] (argFr 0 args) ⟨boxS S, fun _ => 0⟩) {σ : Sg} {w : World} {B : Nat → Option Nat} {vs : List Value} (hh : Holds σ w) (hg : GW w) (hdom : ∀ id g, B id = some g → id ∈ domS S) (hinj : ∀ id id' g, B id = some g → B id' = some g → id = id')
  (hgl : ∀ id g, B id = some g → ¬ isGl g) (hat : BoxesAt σ w B S) (hvl : vs.length = args.length) (hr : ∀ (j : Nat) v x, vs[j]? = some v → args[j]? = some x → RelS ⟨σ, B, fun _ _ => none, fun _ => none⟩ v x) {Post : Ending → World → Prop}
  (hpost : ∀ (E : Env) (G' : Gho) (f' : Fr) (s' : St) (a' : Act) (w' : World) (e : Exit), E.w0 = w → E.σ0 = σ → E.B0 = B → E.Kx = (fun _ => False) → Conc E G' f' s' a' w' → Q e f' s' → resOf P fn.results.toList = some af.res → (e = .normal ∨ e = .ret) ∧ ∃ v, (results fn a'.tmps).run P w' = .ok v w' ∧ Post (.returned v) w') : Calls P f vs.toArray w Post := by
 unfold okInS at hokS
 rw [Bool.and_eq_true] at hokS
 unfold fnAF at haf
 split at haf
 ·rename_i c hbc
  split at haf
  ·rename_i b rr hcode hres
   split at haf
   ·rename_i hok
    cases haf
    simp only [Bool.and_eq_true] at hok
    refine calls_of_wp hf hbc ?_
    have hle : args.length ≤ fn.ntmps := Nat.le_of_ble_eq_true hlen
    have hC : Conc ⟨w, fn.ntmps, σ, hg, B, hgl, fun _ => False, fun _ h => h.elim⟩ ⟨σ, B, fun _ _ => none, fun _ => none⟩ (argFr 0 args) ⟨boxS S, fun _ => 0⟩ { tmps := vs.toArray ++ Array.replicate (fn.ntmps - vs.toArray.size) undef, defers := [] } w :=
     { defers := rfl
       size := by simp; omega
       slots := fun s x hs => by
        obtain ⟨_, h2⟩ := argFr_at hs
        rw [Nat.sub_zero] at h2
        have hsl : s < vs.length := by rw [hvl]; exact (List.getElem?_eq_some_iff.1 h2).1
        have hv : vs[s]? = some vs[s] := List.getElem?_eq_getElem hsl
        have e : (vs.toArray ++ Array.replicate (fn.ntmps - vs.toArray.size) undef).getD s undef = vs[s] := by
         rw [Array.getD_eq_getD_getElem?, Array.getElem?_append_left (by simpa using hsl)]
         simp [hv]
        simp only [e]
        exact hr s _ x hv h2
       hold := hh
       ext := (Ext.refl _ _).toK _
       below := BelowK.refl _ _
       box := fun id cs fz hs => by
        obtain ⟨hm, hf⟩ := boxS_mem hs
        simp only at hf hm
        subst hf
        obtain ⟨g, t, vs', k1, k2, k3, k4, k5⟩ := hat id cs hm
        have hall := List.all_eq_true.1 hokS.1 _ hm
        rw [Bool.and_eq_true] at hall
        exact ⟨g, k1, .inr (.inl ⟨id, k1⟩), t, vs', k2, k3, fun j v c hv hc => okIn_tag (k4 j v c hv hc) (List.all_eq_true.1 hall.2 c (List.mem_of_getElem? hc)), fun j => k5 j⟩
       bnone := fun id hs => by
        show B id = none
        cases hB : B id with
        | none => rfl
        | some g => exact absurd (hdom id g hB) (boxS_none hs)
       binj := hinj
       row := fun s r h1 => by cases h1
       rinj := fun s s' r r' h1 => by cases h1
       rlt := fun s v x h1 => by cases h1
       phi := fun k x h1 => by cases h1
       phinj := fun k k' x x' h1 => by cases h1
       pnone := fun _ _ => rfl
       small := Nat.le_of_ble_eq_true hok.2
       keep := fun id g _ h1 => h1 }
    refine wp_mono (hbody ⟨w, fn.ntmps, σ, hg, B, hgl, fun _ => False, fun _ h => h.elim⟩ rfl hok.1.1 mu c _ _ w hcode hok.1.1 hC) fun e a' w' ⟨G', f', s', hC', hQ⟩ => ?_
    have hQ' : Q e f' s' := by cases e <;> exact hQ
    obtain ⟨he, v, h1, h2⟩ := hpost _ G' f' s' a' w' e rfl rfl rfl rfl hC' hQ' hres
    rcases he with rfl | rfl
    ·exact ⟨hC'.defers, v, h1, h2⟩
    ·exact ⟨hC'.defers, v, h1, h2⟩
   ·cases haf
  ·cases haf
 ·cases haf
theorem calls_raw {f : FuncId} {fn : Func} {af : AFn} {args : List AV} (hf : P.funcs[f]? = some fn) (haf : fnAF P mu fn = some af) (hlen : Nat.ble args.length af.n = true) {Q : Exit → Fr → St → Prop}
  (hbody : ∀ E : Env, E.n = af.n → AK P E Q [.c af.body] (argFr 0 args) ⟨fun _ => none, fun _ => 0⟩) {σ : Sg} {w : World} {vs : List Value} (hh : Holds σ w) (hr : RelPs σ vs args) (hg : GW w) {Post : Ending → World → Prop}
  (hpost : ∀ (E : Env) (G' : Gho) (f' : Fr) (s' : St) (a' : Act) (w' : World) (e : Exit), E.w0 = w → Ext σ G'.σ w.heap.size → Below w.heap.size w w' → (∀ g, E.own g → w.heap.size ≤ g) → Conc E G' f' s' a' w' → Q e f' s' → resOf P fn.results.toList = some af.res → (e = .normal ∨ e = .ret) ∧ ∃ v, (results fn a'.tmps).run P w' = .ok v w' ∧ Post (.returned v) w') : Calls P f vs.toArray w Post := by
 refine calls_rawS (S := []) (B := fun _ => none) hf haf hlen rfl hbody hh hg (fun _ _ h => by cases h) (fun _ _ _ h => by cases h) (fun _ _ h => by cases h) (fun _ _ h => by cases h) hr.1 (fun j v x hv hx => RelS.ofP (hr.2 j v x hv hx)) fun E G' f' s' a' w' e e1 e2 e3 e4 hC hQ hres => ?_
 have hn : ∀ b, ¬ E.K0 b := fun b hb => by
  rcases hb with ⟨id, hb⟩ | hb
  ·rw [e3] at hb; cases hb
  ·rw [e4] at hb; exact hb
 have h1 := hC.ext.ext hn
 have h2 := hC.below.below hn
 rw [e1, e2] at h1
 rw [e1] at h2
 exact hpost E G' f' s' a' w' e e1 h1 h2 (fun g hg => by rcases hg with hg | hg; · rw [e1] at hg; exact hg
                                                         ·exact absurd hg (hn g)) hC hQ hres
theorem AC.enterF {g : AV → Option AV} (hG : ∀ {G : Gho} {v : Value} {c x : AV}, RelS G v c → g c = some x → RelP G.σ v x ∧ x.isTup = false) {f : FuncId} {fn : Func} {af : AFn} {args : List AV} {r : AV} (hf : P.funcs[f]? = some fn) (haf : fnAF P mu fn = some af) (hcb : callable P f = true) (hlen : Nat.ble args.length af.n = true)
  (hbody : ∀ E : Env, E.n = af.n → AK P E (RQF g af.res r) [.c af.body] (argFr 0 args) ⟨fun _ => none, fun _ => 0⟩) : AC P f args r := by
 refine ⟨hcb, fun σ w vs hh hr hg => calls_raw hf haf hlen hbody hh hr hg fun E G' f' s' a' w' e _ hx hb _ hC hQ hres => ?_⟩
 have he : e = .normal ∨ e = .ret := by cases e <;> first | exact .inl rfl | exact .inr rfl | exact hQ.elim
 have hQ' : ∃ l, resValsG g f' s' af.res = some l ∧ resOne l = r := by rcases he with rfl | rfl <;> exact hQ
 obtain ⟨l, hl, hr1⟩ := hQ'
 obtain ⟨us, k1, k2, k3⟩ := res_val hC (R := fun v x => RelP G'.σ v x ∧ x.isTup = false) (fun v c x hc hx => hG hc hx) hres hl
 refine ⟨he, _, k1, G'.σ, _, rfl, hx, hC.hold, hb, ?_⟩
 subst hr1
 rcases us with _ | ⟨u, _ | ⟨v, us⟩⟩
 ·have : l = [] := List.eq_nil_of_length_eq_zero k2.symm
  subst this
  exact ⟨[], rfl, rfl, fun j u x hu hx => (k3 j u x hu hx).1⟩
 ·obtain ⟨x, rfl⟩ := List.length_eq_one_iff.1 k2.symm
  exact RelR.ofP (k3 0 u x rfl rfl).1 (k3 0 u x rfl rfl).2
 ·rcases l with _ | ⟨x, _ | ⟨y, l⟩⟩ <;> simp at k2
  exact ⟨u :: v :: us, rfl, by simp [k2], fun j u x hu hx => (k3 j u x hu hx).1⟩
theorem arg_tup {c x : AV} (h : c.arg = some x) : x.isTup = false := by
 cases c <;> first
  | (cases h; rfl)
  | cases h
theorem AC.enter {f : FuncId} {fn : Func} {af : AFn} {args : List AV} {r : AV} (hf : P.funcs[f]? = some fn) (haf : fnAF P mu fn = some af) (hcb : callable P f = true) (hlen : Nat.ble args.length af.n = true)
  (hbody : ∀ E : Env, E.n = af.n → AK P E (RQ af.res r) [.c af.body] (argFr 0 args) ⟨fun _ => none, fun _ => 0⟩) : AC P f args r :=
 AC.enterF (fun hc hx => ⟨hc.arg hx, arg_tup hx⟩) hf haf hcb hlen hbody
theorem MS.enter {f : FuncId} {fn : Func} {af : AFn} {args : List AV} {S S' : List (Nat × List AV)} {r : AV} (hf : P.funcs[f]? = some fn) (haf : fnAF P mu fn = some af) (hcb : callable P f = true) (hlen : Nat.ble args.length af.n = true) (hokS : okInS S args = true)
  (hbody : ∀ E : Env, E.n = af.n → AK P E (RQS af.res S' r) [.c af.body] (argFr 0 args) ⟨boxS S, fun _ => 0⟩) : MS P f S args S' r := by
 have hok := hokS
 unfold okInS at hok
 rw [Bool.and_eq_true] at hok
 have hbig : ∀ id, id ∈ domS S → 2000000 ≤ id := fun id hid => by
  obtain ⟨x, hx, e⟩ := List.mem_map.1 hid
  have := List.all_eq_true.1 hok.1 x hx
  rw [Bool.and_eq_true] at this
  rw [← e]
  exact Nat.le_of_ble_eq_true this.1
 refine ⟨hcb, fun σ w B vs hh hg hdom hinj hgl hat hr => calls_rawS hf haf hlen (by unfold okInS; rw [Bool.and_eq_true]; exact ⟨hok.1, rfl⟩) hbody hh hg hdom hinj hgl hat hr.1 (fun j v x hv hx => okIn_arg (G := ⟨σ, B, fun _ _ => none, fun _ => none⟩) (hr.2 j v x hv hx) (List.all_eq_true.1 hok.2 x (List.mem_of_getElem? hx))) fun E G' f' s' a' w' e e1 e2 e3 e4 hC' hQ hres => ?_⟩
 have he : e = .normal ∨ e = .ret := by cases e <;> first | exact .inl rfl | exact .inr rfl | exact hQ.elim
 have hQ' : (∃ l, resValsG AV.argN f' s' af.res = some l ∧ resOne l = r) ∧ boxesN s' S' := by rcases he with rfl | rfl <;> exact hQ
 obtain ⟨⟨l, hl, hr1⟩, hbx⟩ := hQ'
 have hB' : ∀ id g, inB G'.B (domS S') id = some g → id ∈ domS S' ∧ G'.B id = some g := fun id g hg => inB_some hg
 obtain ⟨us, k1, k2, k3⟩ := res_val hC' (R := fun v x => RelB1 G'.σ (inB G'.B (domS S')) v x ∧ x.isTup = false) (fun v c x hc hx => ⟨argN_rel (fun id g hg => (hB' id g hg).2) hc hx, argN_notup hx⟩) hres hl
 have hown : ∀ id g, inB G'.B (domS S') id = some g → (∃ id', B id' = some g) ∨ w.heap.size ≤ g := fun id g hg => by
  obtain ⟨q1, q2⟩ := hB' id g hg
  obtain ⟨x, hx, e⟩ := List.mem_map.1 q1
  obtain ⟨ds, d1, d2⟩ := boxesN_mem hbx x hx
  obtain ⟨g2, d3, d4, _⟩ := hC'.box x.1 ds false d1
  rw [e, q2] at d3
  cases d3
  rcases d4 with d4 | ⟨i, d4⟩ | d4
  ·rw [e1] at d4; exact .inr d4
  ·rw [e3] at d4; exact .inl ⟨i, d4⟩
  ·rw [e4] at d4; exact d4.elim
 have hx := hC'.ext
 have hb := hC'.below
 have hKe : E.K0 = fun b => ∃ id, B id = some b := by funext b; unfold Env.K0; rw [e3, e4]; simp
 rw [hKe, e1, e2] at hx
 rw [hKe, e1] at hb
 refine ⟨he, _, k1, G'.σ, _, inB G'.B (domS S'), rfl, hx, hC'.hold, hb, fun id g hg => (hB' id g hg).1, fun id id' g h1 h2 => hC'.binj id id' g (hB' id g h1).2 (hB' id' g h2).2, fun id cs hm => ?_, ?_, hown, fun id g g' h1 h2 => ?_⟩
 ·obtain ⟨ds, d1, d2⟩ := boxesN_mem hbx _ hm
  simp only at d1 d2
  subst d2
  obtain ⟨g2, d3, d4, t, vs', d5, d6, d7, d8⟩ := hC'.box id ds false d1
  have hdm : id ∈ domS S' := List.mem_map.2 ⟨_, hm, rfl⟩
  refine ⟨g2, t, vs', by rw [inB_of hdm]; exact d3, d5, ?_, fun j v c hv hc => ?_, fun j => d8 j⟩
  ·rw [List.map_map, show AV.unown ∘ AV.told = AV.unown from funext told_unown]
   exact d6
  ·rw [List.getElem?_map] at hc
   cases hc0 : ds[j]? with
   | none => rw [hc0] at hc; cases hc
   | some c0 => rw [hc0] at hc; cases hc; exact (d7 j v c0 (by simpa using hv) hc0).toldB fun id g hg => (hB' id g hg).2
 ·subst hr1
  rcases us with _ | ⟨u, _ | ⟨v, us⟩⟩
  ·have : l = [] := List.eq_nil_of_length_eq_zero k2.symm
   subst this
   exact ⟨[], rfl, rfl, fun j u x hu hx => (k3 j u x hu hx).1⟩
  ·obtain ⟨x, rfl⟩ := List.length_eq_one_iff.1 k2.symm
   obtain ⟨q1, q2⟩ := k3 0 u x rfl rfl
   show RelB _ _ u x
   cases x <;> first | exact q1 | cases q2
  ·rcases l with _ | ⟨x, _ | ⟨y, l⟩⟩ <;> simp at k2
   exact ⟨u :: v :: us, rfl, by simp [k2], fun j u x hu hx => (k3 j u x hu hx).1⟩
 ·have h3 := hC'.keep id g' (hbig id (hdom id g h1)) (hB' id g' h2).2
  rw [e3, h1] at h3
  exact Option.some.inj h3
def AV.ren (ρ : Nat → Nat) : AV → AV
 | .np id off => .np (ρ id) off
 | .sli id e n c => .sli (ρ id) e n c
 | a => a
def renS (ρ : Nat → Nat) (S : List (Nat × List AV)) : List (Nat × List AV) := S.map fun x => (ρ x.1, x.2.map (AV.ren ρ))
def AV.renR (ρ : Nat → Nat) : AV → AV
 | .tup l => .tup (l.map (AV.ren ρ))
 | a => a.ren ρ
theorem ren_unown (ρ : Nat → Nat) (a : AV) : (a.ren ρ).unown = a.unown := by cases a <;> rfl
theorem TagB.ren {ρ : Nat → Nat} (hmρ : ∀ i, isMp (ρ i) = isMp i) {B B1 : Nat → Option Nat} (h : ∀ i, B (ρ i) = B1 i) {v : Value} {a : AV} : TagB B v (a.ren ρ) ↔ TagB B1 v a := by
 have e : B1 = fun i => B (ρ i) := funext fun i => (h i).symm
 subst e
 cases a with
 | np i o => unfold TagB; simp only [AV.ren, npV, hmρ]
 | _ => exact Iff.rfl
theorem RelB1.ren {ρ : Nat → Nat} (hmρ : ∀ i, isMp (ρ i) = isMp i) {σ : Sg} {B B1 : Nat → Option Nat} (h : ∀ i, B (ρ i) = B1 i) {v : Value} {a : AV} : RelB1 σ B v (a.ren ρ) ↔ RelB1 σ B1 v a := by
 have e : B1 = fun i => B (ρ i) := funext fun i => (h i).symm
 subst e
 cases a with
 | np i o => exact TagB.ren (a := .np i o) hmρ (fun _ => rfl)
 | _ => exact Iff.rfl
theorem RelB.ren {ρ : Nat → Nat} (hmρ : ∀ i, isMp (ρ i) = isMp i) {σ : Sg} {B B1 : Nat → Option Nat} (h : ∀ i, B (ρ i) = B1 i) {v : Value} {a : AV} (hr : RelB σ B1 v a) : RelB σ B v (a.renR ρ) := by
 cases a with
 | tup l =>
  obtain ⟨vs, e, h1, h2⟩ := hr
  refine ⟨vs, e, by rw [h1, List.length_map], fun j u x hu hx => ?_⟩
  rw [List.getElem?_map] at hx
  cases hl : l[j]? with
  | none => rw [hl] at hx; cases hx
  | some y => rw [hl] at hx; cases hx; exact (RelB1.ren hmρ h).2 (h2 j u y hu hl)
 | np i o => exact (RelB1.ren hmρ (σ := σ) (a := .np i o) h).2 hr
 | sli i e n c => exact (RelB1.ren hmρ (σ := σ) (a := .sli i e n c) h).2 hr
 | _ => exact hr
theorem BoxesAt.ren {ρ : Nat → Nat} (hmρ : ∀ i, isMp (ρ i) = isMp i) {σ : Sg} {w : World} {B B1 : Nat → Option Nat} (h : ∀ i, B (ρ i) = B1 i) {S : List (Nat × List AV)} (ha : BoxesAt σ w B1 S) : BoxesAt σ w B (renS ρ S) := by
 intro id cs hm
 obtain ⟨x, hx, e⟩ := List.mem_map.1 hm
 cases e
 obtain ⟨g, t, vs, k1, k2, k3, k4, k5⟩ := ha x.1 x.2 hx
 refine ⟨g, t, vs, (h x.1).trans k1, k2.num (hmρ _), by rw [List.map_map, show AV.unown ∘ AV.ren ρ = AV.unown from funext (ren_unown ρ)]; exact k3, fun j v c hv hc => ?_, k5⟩
 rw [List.getElem?_map] at hc
 cases hl : x.2[j]? with
 | none => rw [hl] at hc; cases hc
 | some y => rw [hl] at hc; cases hc; exact (TagB.ren hmρ h).2 (k4 j v y hv hl)
theorem BoxesAt.unren {ρ : Nat → Nat} (hmρ : ∀ i, isMp (ρ i) = isMp i) {σ : Sg} {w : World} {B B1 : Nat → Option Nat} (h : ∀ i, B (ρ i) = B1 i) {S : List (Nat × List AV)} (ha : BoxesAt σ w B (renS ρ S)) : BoxesAt σ w B1 S := by
 intro id cs hm
 obtain ⟨g, t, vs, k1, k2, k3, k4, k5⟩ := ha (ρ id) (cs.map (AV.ren ρ)) (List.mem_map.2 ⟨(id, cs), hm, rfl⟩)
 rw [List.map_map, show AV.unown ∘ AV.ren ρ = AV.unown from funext (ren_unown ρ)] at k3
 exact ⟨g, t, vs, (h id).symm.trans k1, k2.num (hmρ _).symm, k3, fun j v c hv hc => (TagB.ren hmρ h).1 (k4 j v (c.ren ρ) hv (by rw [List.getElem?_map, hc]; rfl)), k5⟩
theorem domS_ren (ρ : Nat → Nat) (S : List (Nat × List AV)) : domS (renS ρ S) = (domS S).map ρ := by unfold domS renS; rw [List.map_map, List.map_map]; rfl
open Classical in
noncomputable def unren (ρ : Nat → Nat) (B1 : Nat → Option Nat) : Nat → Option Nat := fun id => if h : ∃ i, ρ i = id then B1 (Classical.choose h) else none
theorem unren_at {ρ : Nat → Nat} (hρ : ∀ i j, ρ i = ρ j → i = j) (B1 : Nat → Option Nat) (i : Nat) : unren ρ B1 (ρ i) = B1 i := by
 have hx : ∃ j, ρ j = ρ i := ⟨i, rfl⟩
 unfold unren
 rw [dif_pos hx, hρ _ _ (Classical.choose_spec hx)]
theorem unren_some {ρ : Nat → Nat} {B1 : Nat → Option Nat} {id g : Nat} (h : unren ρ B1 id = some g) : ∃ i, ρ i = id ∧ B1 i = some g := by
 unfold unren at h
 split at h
 ·rename_i hx; exact ⟨_, Classical.choose_spec hx, h⟩
 ·cases h
theorem MS.ren {f : FuncId} {args : List AV} {S S' : List (Nat × List AV)} {r : AV} (h : MS P f S args S' r) (ρ : Nat → Nat) (hρ : ∀ i j, ρ i = ρ j → i = j) (hm : ∀ i, isMp (ρ i) = isMp i) : MS P f (renS ρ S) (args.map (AV.ren ρ)) (renS ρ S') (r.renR ρ) := by
 refine ⟨h.cb, fun σ w B vs hh hg hdom hinj hgl hat hr => ?_⟩
 have hK : ∀ b, (∃ i, B (ρ i) = some b) ↔ ∃ id, B id = some b := fun b => by
  constructor
  ·rintro ⟨i, hi⟩; exact ⟨_, hi⟩
  ·rintro ⟨id, hid⟩
   have := hdom id b hid
   rw [domS_ren] at this
   obtain ⟨i, _, rfl⟩ := List.mem_map.1 this
   exact ⟨i, hid⟩
 have hKe : (fun b => ∃ i, B (ρ i) = some b) = fun b => ∃ id, B id = some b := funext fun b => propext (hK b)
 refine (h.run σ w (fun i => B (ρ i)) vs hh hg (fun i g hi => ?_) (fun i j g h1 h2 => hρ _ _ (hinj _ _ g h1 h2)) (fun i g hi => hgl _ g hi) (hat.unren hm fun _ => rfl) ⟨by rw [hr.1, List.length_map], fun j v a hv ha => (RelB1.ren hm fun _ => rfl).1 (hr.2 j v (a.ren ρ) hv (by rw [List.getElem?_map, ha]; rfl))⟩).mono fun e w' ⟨σ', v, B1, he, hx, hh', hb, hdom', hinj', hat', hr', hrange, hkept⟩ => ?_
 ·have := hdom _ g hi
  rw [domS_ren] at this
  obtain ⟨k, hk, e⟩ := List.mem_map.1 this
  rw [hρ _ _ e] at hk
  exact hk
 ·rw [hKe] at hx hb
  refine ⟨σ', v, unren ρ B1, he, hx, hh', hb, fun id g hg => ?_, fun id id' g h1 h2 => ?_, hat'.ren hm (unren_at hρ B1), hr'.ren hm (unren_at hρ B1), fun id g hg => ?_, fun id g g' h1 h2 => ?_⟩
  ·obtain ⟨i, rfl, hi⟩ := unren_some hg
   rw [domS_ren]
   exact List.mem_map.2 ⟨i, hdom' i g hi, rfl⟩
  ·obtain ⟨i, rfl, hi⟩ := unren_some h1
   obtain ⟨j, rfl, hj⟩ := unren_some h2
   rw [hinj' i j g hi hj]
  ·obtain ⟨i, rfl, hi⟩ := unren_some hg
   exact (hrange i g hi).imp (fun ⟨k, hk⟩ => ⟨_, hk⟩) id
  ·obtain ⟨i, rfl, hi⟩ := unren_some h2
   exact hkept i g g' h1 hi
end
section
variable {P : Program} {E : Env} {Q : Exit → Fr → St → Prop} {k : List AItem} {fr fr' : Fr} {st st' : St}
theorem kS {a b : ACode} (h : AK P E Q (.c a :: .c b :: k) fr st) : AK P E Q (.c (.seq a b) :: k) fr st := AK.seq h
theorem kB {id : Nat} {b : ACode} (h : AK P E Q (.c b :: .blk id :: k) fr st) : AK P E Q (.c (.block id b) :: k) fr st := AK.block h
theorem kL {id : Nat} (h : AK P E Q k fr st) : AK P E Q (.blk id :: k) fr st := AK.blk h
theorem kN (h : AK P E Q k fr st) : AK P E Q (.c .skip :: k) fr st := AK.skip h
theorem kR (hm : P.follows .mixedOrders = true) (rs : List RS) {l : List GI} {rs' : List RS} {p : Prop} (hs : arun P l rs fr st = some (rs', fr', st', p)) (hp : p) (h : AK P E Q k fr' st') : AK P E Q (.c (.reg l) :: k) fr st := AK.reg hm hs hp h
theorem kT1 : True := trivial
theorem kT2 : True ∧ True := ⟨trivial, trivial⟩
theorem kT3 : True ∧ True ∧ True := ⟨trivial, trivial, trivial⟩
theorem kT4 : True ∧ True ∧ True ∧ True := ⟨trivial, trivial, trivial, trivial⟩
theorem kA (hm : P.follows .mixedOrders = true) {l : List GI} {rs' : List RS} {p : Prop} (h : AK P E Q k fr' st') (hs : arun P l [] fr st = some (rs', fr', st', p) := by rfl) (hp : p := by first | exact kT1 | exact kT2 | exact kT3 | exact kT4) : AK P E Q (.c (.reg l) :: k) fr st := AK.reg hm hs hp h
theorem kG {p : Prop} (h : p := by repeat (first | exact trivial | assumption | constructor)) : p := h
theorem kD {p : Prop} (h : p := by first | trivial | omega | (simp only [List.length_nil, List.length_cons]; omega) | (show _ ∨ _; first | exact .inl rfl | exact .inr (Nat.succ_pos _)) | (intro hgd; rw [hgd]; rfl) | (intro hgd; refine ⟨?_, kG⟩; (repeat' apply And.intro) <;> first | trivial | omega | (intro h2; rw [hgd, h2]; rfl)) | (intro h2; rw [hgd, h2]; rfl)) : p := h
end
abbrev gO : Option (Nat × Bool) := none
abbrev gM (d x : Nat) : GI := ⟨none, .mov d (.s x)⟩
abbrev gN (g : Nat) (b : Bool) (d x : Nat) : GI := ⟨some (g, b), .mov d (.s x)⟩
abbrev gC (d f : Nat) (l : List Opd) : GI := ⟨none, .call (some d) (.k (.fn f [])) l⟩
abbrev gI (n : Int) : Opd := .k (.int .i64 n)
abbrev gS (s : ByteArray) : Opd := .k (.str s)
abbrev gB (d : Nat) (o : BinOp) (x y : Opd) : AI := .bin d o false x y
abbrev gZ : List AV := [.int .i64 0, .bool false, .int .i64 0, .str ⟨#[]⟩, .lst .nil 6 [], .lst .nil 7 []]
abbrev gL (d x : Nat) : GI := ⟨none, .ld d 1 false (.s x)⟩
abbrev gA (d n x : Nat) : GI := ⟨none, .ld d n true (.s x)⟩
abbrev gF (d k x : Nat) : GI := ⟨none, .off d k (.s x)⟩
abbrev gX (d i x : Nat) : GI := ⟨none, .ext d i (.s x)⟩
abbrev gU (d : Nat) (o : BinOp) (x : Nat) (n : Int) : GI := ⟨none, .bin d o false (.s x) (.k (.int .i64 n))⟩
abbrev gV (d : Nat) (o : BinOp) (x y : Nat) : GI := ⟨none, .bin d o false (.s x) (.s y)⟩
abbrev gH (d : Nat) (b : Bool) (x : Nat) : GI := ⟨none, .len d b (.s x)⟩
abbrev gJ (d : Nat) (n : Int) : GI := ⟨none, .mov d (.k (.int .i64 n))⟩
abbrev gE (d e x i : Nat) : GI := ⟨none, .idx d e (.s x) (.s i)⟩
abbrev gT (n p x : Nat) : GI := ⟨none, .st n (.s p) (.s x)⟩
abbrev gP (d x : Nat) : GI := ⟨none, .box d (.s x)⟩
abbrev gQ (l : List GI) : ACode := .reg l
end Go.Proofs.YtgidajjjpeboeaaGreatDoor
