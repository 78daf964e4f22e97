/-
  The texts that the claim wants, one behind the other: part 42.
-/
import Derived.Test.YtgidajjjpeboeaaGreatDoorS41
set_option linter.unusedSimpArgs false
set_option linter.unusedVariables false
namespace Go.Proofs.YtgidajjjpeboeaaGreatDoor
open Go.RowKit
def AV.stab1 : AV → Bool
 | .np id _ => Nat.blt id 1000000 || Nat.ble 2000000 id
 | .sli _ _ _ _ | .frs _ _ _ | .pel _ _ _ _ _ | .agg _ | .tup _ | .when _ _ => false
 | .lst (.own _ _) _ _ => false
 | _ => true
def AV.stab : AV → Bool
 | .agg cs => cs.all AV.stab1
 | a => a.stab1
theorem clrC_stab {N : List Nat} (hN : ∀ i ∈ N, 1000000 ≤ i ∧ i < 2000000) {a : AV} (h : a.stab1 = true) : clrC N a = a := by
 cases a with
 | np id o =>
  have : memN id N = false := by
   cases hm : memN id N with
   | false => rfl
   | true =>
    have h1 := hN id (memN_iff.1 hm)
    simp only [AV.stab1, Bool.or_eq_true, Nat.blt_eq, Nat.ble_eq] at h
    omega
  simp only [clrC, this]
 | sli _ _ _ _ => cases h
 | _ => rfl
theorem clrS_stab {N : List Nat} (hN : ∀ i ∈ N, 1000000 ≤ i ∧ i < 2000000) {a : AV} (h : a.stab = true) : clrS N a = a := by
 cases a with
 | agg cs =>
  show AV.agg (cs.map (clrC N)) = _
  congr 1
  exact (List.map_congr_left fun x hx => clrC_stab hN (List.all_eq_true.1 h x hx)).trans (List.map_id _)
 | pel _ _ _ _ _ => cases h
 | tup _ => cases h
 | «when» _ _ => cases h
 | np id o => exact clrC_stab hN (a := .np id o) h
 | sli _ _ _ _ => cases h
 | _ => rfl
theorem dropN_map (g : AV → AV) : ∀ (n : Nat) (l : List AV), dropN n (l.map g) = (dropN n l).map (List.map g)
 | 0, _ => rfl
 | n + 1, [] => rfl
 | n + 1, _ :: l => dropN_map g n l
theorem takeN_map (g : AV → AV) : ∀ (n : Nat) (l : List AV), takeN n (l.map g) = (takeN n l).map (List.map g)
 | 0, _ => rfl
 | n + 1, [] => rfl
 | n + 1, a :: l => by
  simp only [List.map_cons, takeN, takeN_map g n l]
  cases takeN n l <;> rfl
theorem getN_map (g : AV → AV) : ∀ (n : Nat) (l : List AV), getN n (l.map g) = (getN n l).map g
 | 0, [] => rfl
 | 0, _ :: _ => rfl
 | n + 1, [] => rfl
 | n + 1, _ :: l => getN_map g n l
def readN (n : Nat) (agg : Bool) (o : Nat) (cs : List AV) : Option AV := match dropN o cs with
 | some c => match agg with
  | true => match takeN n c with
   | some c => match c.all AV.stab1 with
    | true => some (.agg c)
    | false => none
   | none => none
  | false => match getN 0 c with
   | some a => match a.stab1 with
    | true => some a
    | false => none
   | none => none
 | none => none
theorem readN_stab {n : Nat} {agg : Bool} {o : Nat} {cs : List AV} {a : AV} (h : readN n agg o cs = some a) : a.stab = true := by
 unfold readN at h
 repeat' split at h
 all_goals first | cases h; done | skip
 ·cases h; assumption
 ·rename_i x h1 h2
  cases h
  cases a <;> first | exact h2 | cases h2
theorem readN_clr {N : List Nat} (hN : ∀ i ∈ N, 1000000 ≤ i ∧ i < 2000000) {n : Nat} {agg : Bool} {o : Nat} {cs : List AV} {a : AV} (h : readN n agg o cs = some a) : readN n agg o (cs.map (clrC N)) = some a := by
 unfold readN at h ⊢
 rw [dropN_map]
 cases hd : dropN o cs with
 | none => rw [hd] at h; cases h
 | some c =>
  rw [hd] at h
  cases agg with
  | true =>
   simp only [Option.map_some, takeN_map] at h ⊢
   cases ht : takeN n c with
   | none => rw [ht] at h; cases h
   | some c' =>
    rw [ht] at h
    simp only [Option.map_some] at h ⊢
    cases ha : c'.all AV.stab1 with
    | false => rw [ha] at h; cases h
    | true =>
     rw [ha] at h
     have e : c'.map (clrC N) = c' := (List.map_congr_left fun x hx => clrC_stab hN (List.all_eq_true.1 ha x hx)).trans (List.map_id _)
     rw [e, ha]
     exact h
  | false =>
   simp only [Option.map_some, getN_map] at h ⊢
   cases ht : getN 0 c with
   | none => rw [ht] at h; cases h
   | some x =>
    rw [ht] at h
    simp only [Option.map_some] at h ⊢
    cases ha : x.stab1 with
    | false => rw [ha] at h; cases h
    | true =>
     rw [ha] at h
     rw [clrC_stab hN ha, ha]
     exact h
def early (x : GI) (fr : Fr) (st : St) : Option (Nat × AV × Option Nat) := match x with
 | ⟨none, .mov d (.s s)⟩ => match fr s with
  | some a => match a.stab with
   | true => some (d, a, none)
   | false => none
  | none => none
 | ⟨none, .off d k (.s s)⟩ => match fr s with
  | some (.ptr id o) => some (d, .ptr id (o + k), none)
  | _ => none
 | ⟨none, .ld d n agg (.s s)⟩ => match fr s with
  | some (.ptr id o) => match Nat.blt id 1000000, st.cbox id with
   | true, some (cs, _) => match readN n agg o cs with
    | some a => some (d, a, some id)
    | none => none
   | _, _ => none
  | _ => none
 | _ => none
section
variable {P : Program} {x : GI} {fr : Fr} {st : St} {d : Nat} {a : AV} {b : Option Nat}
theorem early_cases (h : early x fr st = some (d, a, b)) : a.stab = true ∧ x.i.dst = some d ∧ x.g = none ∧ ((b = none ∧ ∃ s, s ∈ x.looks ∧ ∀ (rs : Option RS) (f : Fr) (t : St), f s = fr s → gstep P x rs f t = some (put1 f d a, t, True) ∧ early x f t = some (d, a, none)) ∨
  ∃ id s cs n agg o, b = some id ∧ id < 1000000 ∧ s ∈ x.looks ∧ x.i.cl = .ld ∧ (∃ z, st.cbox id = some (cs, z)) ∧ readN n agg o cs = some a ∧ ∀ (rs : Option RS) (f : Fr) (t : St), f s = fr s → (∃ cs' z, t.cbox id = some (cs', z) ∧ readN n agg o cs' = some a) → gstep P x rs f t = some (put1 f d a, t, True) ∧ early x f t = some (d, a, some id)) := by
 unfold early at h
 split at h
 ·rename_i d' s
  split at h
  ·rename_i v hv
   split at h
   ·rename_i hs
    cases h
    refine ⟨hs, rfl, rfl, .inl ⟨rfl, s, List.mem_append_left _ (List.mem_singleton.2 rfl), fun rs f t hf => ?_⟩⟩
    rw [hv] at hf
    refine ⟨?_, ?_⟩
    ·show (match (Opd.s s).ev f with | some a => some (put1 f d a, t, True) | none => none) = _
     simp only [Opd.ev, hf]
    ·simp only [early, hf, hs]
   ·cases h
  ·cases h
 ·rename_i d' k s
  split at h
  ·rename_i id o hv
   cases h
   refine ⟨rfl, rfl, rfl, .inl ⟨rfl, s, List.mem_append_left _ (List.mem_singleton.2 rfl), fun rs f t hf => ?_⟩⟩
   rw [hv] at hf
   refine ⟨?_, ?_⟩
   ·show astep P (.off d k (.s s)) rs f t = _
    simp only [astep, Opd.ev, hf]
   ·simp only [early, hf]
  ·cases h
 ·rename_i d' n agg s
  split at h
  ·rename_i id o hv
   split at h
   ·rename_i cs z hb hc
    split at h
    ·rename_i v hr
     cases h
     refine ⟨readN_stab hr, rfl, rfl, .inr ⟨id, s, cs, n, agg, o, rfl, Nat.le_of_ble_eq_true hb, List.mem_append_left _ (List.mem_singleton.2 rfl), rfl, ⟨z, hc⟩, hr, fun rs f t hf ⟨cs', z', hc', hr'⟩ => ?_⟩⟩
     rw [hv] at hf
     refine ⟨?_, ?_⟩
     ·show astep P (.ld d n agg (.s s)) rs f t = _
      simp only [astep, Opd.ev, hf, hc']
      unfold readN at hr'
      cases hd : dropN o cs' with
      | none => rw [hd] at hr'; cases hr'
      | some c =>
       rw [hd] at hr'
       simp only at hr' ⊢
       cases agg with
       | true =>
        simp only at hr' ⊢
        cases ht : takeN n c with
        | none => rw [ht] at hr'; cases hr'
        | some c2 =>
         rw [ht] at hr'
         simp only at hr' ⊢
         split at hr'
         ·cases hr'; rfl
         ·cases hr'
       | false =>
        simp only at hr' ⊢
        cases ht : getN 0 c with
        | none => rw [ht] at hr'; cases hr'
        | some c2 =>
         rw [ht] at hr'
         simp only at hr' ⊢
         split at hr'
         ·cases hr'; rfl
         ·cases hr'
     ·simp only [early, hf, hb, hc', hr']
    ·cases h
   ·cases h
  ·cases h
 ·cases h
theorem early_step (h : early x fr st = some (d, a, b)) (rs : Option RS) : gstep P x rs fr st = some (put1 fr d a, st, True) := by
 obtain ⟨_, _, _, ⟨_, s, _, k⟩ | ⟨id, s, cs, n, agg, o, _, _, _, _, ⟨z, hc⟩, hr, k⟩⟩ := early_cases (P := P) h
 ·exact (k rs fr st rfl).1
 ·exact (k rs fr st rfl ⟨cs, z, hc, hr⟩).1
theorem early_indep {y : GI} (h : early x fr st = some (d, a, b)) (hind : indep x y = true) {ry : Option RS} {f : Fr} {s' : St} {q : Prop} (hy : gstep P y ry fr st = some (f, s', q)) : early x f s' = some (d, a, b) := by
 unfold indep at hind
 rw [Bool.and_eq_true] at hind
 obtain ⟨ha, hok⟩ := hind
 obtain ⟨a1, a2, a3⟩ := apartA_spec ha
 obtain ⟨v, e⟩ := gstep_fs hy (okPair_hard hok).2
 have hfs : ∀ s ∈ x.looks, f s = fr s := fun s hs => by
  subst e
  unfold updO
  cases he : y.i.dst with
  | some e' => exact upd_ne _ _ fun hh => a3 e' he (hh ▸ hs)
  | none => rfl
 obtain ⟨_, _, _, ⟨hb, s, hs, k⟩ | ⟨id, s, cs, n, agg, o, hb, hid, hs, hcl, ⟨z, hc⟩, hr, k⟩⟩ := early_cases (P := P) h
 ·subst hb
  exact (k none f s' (hfs s hs)).2
 ·subst hb
  refine (k none f s' (hfs s hs) ⟨cs, z, ?_, hr⟩).2
  obtain ⟨hbx, hmp⟩ := cbox_some hc
  refine cbox_of hmp ?_
  rw [hcl] at hok
  cases hyc : y.i.cl with
  | pure => rw [(pure_st hyc hy).1]; exact hbx
  | ld => rw [(ld_st hyc hy).1]; exact hbx
  | app => rw [(app_st hyc hy).1]; exact hbx
  | new =>
   obtain ⟨d2, y2, _, k1, k2, _⟩ := new_st hyc hy
   subst k2
   show upd st.box d2 (some y2) id = _
   rw [upd_ne _ _ (fun hh => by rw [hh, k1] at hbx; cases hbx)]
   exact hbx
  | st => rw [hyc] at hok; cases hok
  | frz => rw [hyc] at hok; cases hok
  | strict => rw [hyc] at hok; cases hok
  | hard => rw [hyc] at hok; cases hok
end
def okB (b : Option Nat) (ids : List Nat) : Bool := match b with
 | none => true
 | some id => !memN id ids
def okC (rj : Option RS) (Xj : Option XSpec) (b : Option Nat) : Bool := match Xj with
 | some sp => okB b sp.ids
 | none => match rj with
  | some (.s ids _ _) => okB b ids
  | some (.v _) => true
  | _ => false
def isCalls (x : GI) : Bool := match x with
 | ⟨none, .calls _ (.k (.fn _ [])) _⟩ => true
 | _ => false
def callOk (xi xj : GI) (rj : Option RS) (Xj : Option XSpec) (b : Option Nat) : Bool := isCalls xj && (apartA xi xj && okC rj Xj b)
section
variable {P : Program} {x : GI} {fr : Fr} {st : St} {d : Nat} {a : AV} {b : Option Nat}
theorem clrF_put1 {N : List Nat} (hN : ∀ i ∈ N, 1000000 ≤ i ∧ i < 2000000) (fr : Fr) (d : Nat) {a : AV} (ha : a.stab = true) : clrF N (put1 fr d a) = put1 (clrF N fr) d a := by
 cases N with
 | nil => rfl
 | cons n N =>
  funext s
  show (match upd fr d (some a) s with | some a => some (clrS (n :: N) a) | none => none) = upd (clrF (n :: N) fr) d (some a) s
  rw [upd_at, upd_at]
  by_cases hs : s = d
  ·rw [if_pos hs, if_pos hs]
   show some (clrS (n :: N) a) = _
   rw [clrS_stab hN ha]
  ·rw [if_neg hs, if_neg hs]
   rfl
theorem clrB_atY (N : List Nat) (bx : Nat → Option (List AV × Bool)) {k : Nat} {cs : List AV} {z : Bool} (h : bx k = some (cs, z)) : clrB N bx k = some (cs.map (clrC N), z) ∨ clrB N bx k = some (cs, z) := by
 cases N with
 | nil => exact .inr h
 | cons n N =>
  left
  show (match bx k with | some (ds, fz) => some (ds.map (clrC (n :: N)), fz) | none => none) = _
  rw [h]
def setO (fr : Fr) (d : Option Nat) (r : AV) : Fr := match d with
 | some d => put1 fr d r
 | none => fr
theorem early_call (P : Program) (h : early x fr st = some (d, a, b)) {ids : List Nat} {S' : List (Nat × List AV)} {r : AV} {dj : Option Nat} (hlk : ∀ e, dj = some e → e ∉ x.looks) (hdj : ∀ e, dj = some e → e ≠ d) (hb : okB b ids = true)
  (hN : ∀ i ∈ newIds ids S', 1000000 ≤ i ∧ i < 2000000) :
  setO (clrF (newIds ids S') (put1 fr d a)) dj r = put1 (setO (clrF (newIds ids S') fr) dj r) d a ∧
   early x (setO (clrF (newIds ids S') fr) dj r) ⟨putS (clrB (newIds ids S') st.box) ids S', st.row⟩ = some (d, a, b) := by
 obtain ⟨hst, hdx, hgx, hcase⟩ := early_cases (P := P) h
 refine ⟨?_, ?_⟩
 ·rw [clrF_put1 hN fr d hst]
  cases dj with
  | none => rfl
  | some e => exact (upd_swap _ _ _ (hdj e rfl)).symm
 ·have key : ∀ f' : Fr, f' = (setO (clrF (newIds ids S') fr) dj r) → early x f' ⟨putS (clrB (newIds ids S') st.box) ids S', st.row⟩ = some (d, a, b) := ?_
  ·exact key _ rfl
  intro f' hf'
  have hfs : ∀ s ∈ x.looks, f' s = clrF (newIds ids S') fr s := fun s hs => by
   subst hf'
   cases dj with
   | none => rfl
   | some e => exact upd_ne _ _ fun hh => hlk e rfl (hh ▸ hs)
  -- the value that is looked at
  have hkeep : ∀ s ∈ x.looks, ∀ v, fr s = some v → v.stab = true → f' s = fr s := fun s hs v hv hvs => by
   rw [hfs s hs, clrF_at, hv]
   show some (clrS _ v) = _
   rw [clrS_stab hN hvs]
  unfold early at h
  split at h
  ·rename_i d' s
   have hs : s ∈ GI.looks ⟨none, .mov d' (.s s)⟩ := List.mem_append_left _ (List.mem_singleton.2 rfl)
   split at h
   ·rename_i v hv
    split at h
    ·rename_i hvs
     cases h
     have e := hkeep s hs _ hv hvs
     simp only [early, e, hv, hvs]
    ·cases h
   ·cases h
  ·rename_i d' k s
   have hs : s ∈ GI.looks ⟨none, .off d' k (.s s)⟩ := List.mem_append_left _ (List.mem_singleton.2 rfl)
   split at h
   ·rename_i id o hv
    cases h
    have e := hkeep s hs _ hv rfl
    simp only [early, e, hv]
   ·cases h
  ·rename_i d' n agg s
   have hs : s ∈ GI.looks ⟨none, .ld d' n agg (.s s)⟩ := List.mem_append_left _ (List.mem_singleton.2 rfl)
   split at h
   ·rename_i id o hv
    have e := hkeep s hs _ hv rfl
    split at h
    ·rename_i cs z hb1 hc
     split at h
     ·rename_i v hr
      cases h
      obtain ⟨hbx, hmp⟩ := cbox_some hc
      have hnid : id ∉ ids := fun hm => by
       have : memN id ids = false := by simpa [okB] using hb
       rw [memN_iff.2 hm] at this
       cases this
      have hid : id < 1000000 := Nat.le_of_ble_eq_true hb1
      have hg : getS S' id = none := by
       cases hg : getS S' id with
       | none => rfl
       | some c =>
        have hm := getS_mem hg
        have := hN id (mem_newIds.2 ⟨List.mem_map.2 ⟨_, hm, rfl⟩, hnid⟩)
        omega
      have hmf : memN id ids = false := by simpa [okB] using hb
      have hbox : ∃ cs', putS (clrB (newIds ids S') st.box) ids S' id = some (cs', z) ∧ readN n agg o cs' = some a := by
       unfold putS
       rw [hg, hmf]
       rcases clrB_atY (newIds ids S') st.box hbx with h1 | h1
       ·exact ⟨_, h1, readN_clr hN hr⟩
       ·exact ⟨_, h1, hr⟩
      obtain ⟨cs', h1, h2⟩ := hbox
      have h3 : St.cbox ⟨putS (clrB (newIds ids S') st.box) ids S', st.row⟩ id = some (cs', z) := cbox_of hmp h1
      simp only [early, e, hv, hb1, h3, h2]
     ·cases h
    ·cases h
   ·cases h
  ·cases h
theorem ok_news {ids : List Nat} {S' : List (Nat × List AV)} {r : AV} {bx : Nat → Option (List AV × Bool)} (h : (okS ids S' r && freeIds bx (newIds ids S')) = true) : ∀ i ∈ newIds ids S', 1000000 ≤ i ∧ i < 2000000 := fun i hi => by
 rw [Bool.and_eq_true] at h
 exact (freeIds_at h.2 i hi).2
theorem early_swap {xj : GI} {rj : Option RS} {Xj : Option XSpec} (h : early x fr st = some (d, a, b)) (hok : callOk x xj rj Xj b = true) {T : Fr → St → Prop} (hs : stepX P Xj xj rj (put1 fr d a) st T) :
  stepX P Xj xj rj fr st fun f s => early x f s = some (d, a, b) ∧ T (put1 f d a) s := by
 unfold callOk at hok
 simp only [Bool.and_eq_true] at hok
 obtain ⟨hcj, hap, hoc⟩ := hok
 obtain ⟨a1, a2, a3⟩ := apartA_spec hap
 obtain ⟨_, hdx, _, _⟩ := early_cases (P := P) h
 unfold isCalls at hcj
 split at hcj
 ·rename_i dj f xs
  have hnl : d ∉ xs.flatMap Opd.slots := fun hm => a1 d hdx (List.mem_append_left _ (List.mem_append_right _ hm))
  have hev : evs (put1 fr d a) xs = evs fr xs := evs_upd _ hnl
  have hlk : ∀ e, dj = some e → e ∉ x.looks := fun e he => a3 e he
  have hdj : ∀ e, dj = some e → e ≠ d := fun e he hh => a2 d hdx (by rw [← hh]; exact he)
  cases Xj with
  | some sp =>
   have hs : callX P sp dj f xs (put1 fr d a) st T := hs
   show callX P sp dj f xs fr st fun f s => early x f s = some (d, a, b) ∧ T (put1 f d a) s
   unfold callX at hs ⊢
   rw [hev] at hs
   cases hav : evs fr xs with
   | none => rw [hav] at hs; exact hs.elim
   | some av =>
    rw [hav] at hs
    simp only at hs ⊢
    cases hbs : argsN av with
    | none => rw [hbs] at hs; exact hs.elim
    | some bs =>
     rw [hbs] at hs
     cases hSS : handS st.box sp.ids with
     | none => rw [hSS] at hs; exact hs.elim
     | some S0 =>
      rw [hSS] at hs
      obtain ⟨h1, h2, h3⟩ := hs
      refine ⟨h1, h2, fun i hi => ?_⟩
      obtain ⟨k1, k2⟩ := early_call P (r := sp.r i) h hlk hdj (hoc : okB b sp.ids = true) (ok_news (h2 i hi))
      refine ⟨k2, ?_⟩
      have h4 : T (setO (clrF (newIds sp.ids (sp.S' i)) (put1 fr d a)) dj (sp.r i)) _ := h3 i hi
      rw [k1] at h4
      exact h4
  | none =>
   obtain ⟨f2, s2, q, h0, hq, hT⟩ := stepX_none hs
   have h1 : astep P (.calls dj (.k (.fn f [])) xs) rj (put1 fr d a) st = some (f2, s2, q) := h0
   clear hs h0
   unfold okC at hoc
   simp only at hoc
   split at hoc
   ·rename_i ids S' r
    simp only [astep, Opd.ev, hev] at h1
    cases hav : evs fr xs with
    | none => rw [hav] at h1; cases h1
    | some av =>
     rw [hav] at h1
     simp only at h1
     cases hbs : argsN av with
     | none => rw [hbs] at h1; cases h1
     | some bs =>
      rw [hbs] at h1
      cases hSS : handS st.box ids with
      | none => rw [hSS] at h1; cases h1
      | some S0 =>
       rw [hSS] at h1
       simp only [Option.some.injEq, Prod.mk.injEq] at h1
       obtain ⟨e1, e2, e3⟩ := h1
       subst e2 e3
       obtain ⟨k1, k2⟩ := early_call P (r := r) h hlk hdj hoc (ok_news hq.2)
       refine stepX_mk (f := (setO (clrF (newIds ids S') fr) dj r)) (s := ⟨putS (clrB (newIds ids S') st.box) ids S', st.row⟩) ?_ hq ⟨k2, ?_⟩
       ·show astep P (.calls dj (.k (.fn f [])) xs) (some (.s ids S' r)) fr st = _
        simp only [astep, Opd.ev, hav, hbs, hSS]
        rfl
       ·have e1 : setO (clrF (newIds ids S') (put1 fr d a)) dj r = f2 := e1
        rw [← k1, e1]
        exact hT
   ·rename_i r
    simp only [astep, Opd.ev, hev] at h1
    cases hav : evs fr xs with
    | none => rw [hav] at h1; cases h1
    | some av =>
     rw [hav] at h1
     simp only at h1
     cases hbs : argsOf av with
     | none => rw [hbs] at h1; cases h1
     | some bs =>
      rw [hbs] at h1
      simp only [Option.some.injEq, Prod.mk.injEq] at h1
      obtain ⟨e1, e2, e3⟩ := h1
      subst e2 e3
      have k1 := early_call P (ids := []) (S' := []) (r := r) h hlk hdj (by cases b <;> rfl) (fun i hi => by cases hi)
      refine stepX_mk (f := setO fr dj r) (s := st) ?_ hq ⟨?_, ?_⟩
      ·show astep P (.calls dj (.k (.fn f [])) xs) (some (.v r)) fr st = _
       simp only [astep, Opd.ev, hav, hbs]
       rfl
      ·exact k1.2
      ·have k2 : setO (put1 fr d a) dj r = put1 (setO fr dj r) d a := k1.1
       have e1 : setO (put1 fr d a) dj r = f2 := e1
       rw [← k2, e1]
       exact hT
   ·cases hoc
 ·cases hcj
end
theorem anyB_early {P : Program} {ops : Array Oper} {S : List (GI × Option RS)} {X : Nat → Option XSpec} {R : Fr → St → Prop} {i : Nat} {xi : GI} {ri : Option RS} {d : Nat} {a : AV} {b : Option Nat} (hi : S[i]? = some (xi, ri)) (hXi : X i = none) :
  ∀ (fuel : Nat) (listed : Array Bool) (fr : Fr) (st : St), ClosedL ops listed → (∀ j xj rj oj, S[j]? = some (xj, rj) → ops[j]? = some oj → j ≠ i → listed.getD j true = false → depN ops ops.size j i = false → (X j = none ∧ indep xi xj = true) ∨ callOk xi xj rj (X j) b = true) →
   i ∈ Region.ready .any ops listed → early xi fr st = some (d, a, b) → anyB P ops S X R fuel (listed.setIfInBounds i true) (put1 fr d a) st → anyB P ops S X R (fuel + 1) listed fr st := by
 intro fuel
 induction fuel with
 | zero =>
  intro listed fr st _ _ hr he H
  refine ⟨fun h => (by rw [h] at hr; cases hr), fun j hj => ?_⟩
  by_cases hji : j = i
  ·subst hji
   refine ⟨xi, ri, hi, ?_⟩
   rw [hXi]
   exact stepX_mk (early_step he ri) trivial H
  ·have := ready_mono hj hji
   rw [H.1] at this
   cases this
 | succ fuel ih =>
  intro listed fr st hcl hfree hr he H
  refine ⟨fun h => (by rw [h] at hr; cases hr), fun j hj => ?_⟩
  by_cases hji : j = i
  ·subst hji
   refine ⟨xi, ri, hi, ?_⟩
   rw [hXi]
   exact stepX_mk (early_step he ri) trivial H
  ·obtain ⟨xj, rj, hSj, hst⟩ := H.2 j (ready_mono hj hji)
   obtain ⟨hjun, oj, hoj, hall⟩ := mem_ready.1 hj
   have hnot := depN_false hcl (mem_ready.1 hr).1 ops.size j oj hoj hall
   have hfree2 : ∀ k xk rk ok, S[k]? = some (xk, rk) → ops[k]? = some ok → k ≠ i → (listed.setIfInBounds j true).getD k true = false → depN ops ops.size k i = false → (X k = none ∧ indep xi xk = true) ∨ callOk xi xk rk (X k) b = true := fun k xk rk ok hSk hok hki hun hno => by
    refine hfree k xk rk ok hSk hok hki ?_ hno
    by_cases hjk : j = k
    ·subst hjk; exact hjun
    ·rw [getD_set_ne true hjk] at hun; exact hun
   have hrd : i ∈ Region.ready .any ops (listed.setIfInBounds j true) := ready_mono hr (Ne.symm hji)
   have go : ∀ f s, early xi f s = some (d, a, b) → anyB P ops S X R fuel ((listed.setIfInBounds i true).setIfInBounds j true) (put1 f d a) s → anyB P ops S X R (fuel + 1) (listed.setIfInBounds j true) f s := fun f s h1 h2 => by
    refine ih (listed.setIfInBounds j true) f s (hcl.set hj) hfree2 hrd h1 ?_
    rw [Array.setIfInBounds_comm _ _ hji]
    exact h2
   refine ⟨xj, rj, hSj, ?_⟩
   rcases hfree j xj rj oj hSj hoj hji hjun hnot with ⟨hXj, hind⟩ | hok
   ·rw [hXj] at hst ⊢
    obtain ⟨f2, s2, q, hsj, hq, h3⟩ := stepX_none hst
    obtain ⟨f1', s1', k1, k2⟩ := diamond hind (early_step he ri) hsj
    have he' := early_indep he hind k1
    rw [early_step he' ri] at k2
    cases k2
    exact stepX_mk k1 hq (go _ _ he' h3)
   ·exact stepX_imp (fun f s h => go f s h.1 h.2) (early_swap he hok hst)
end Go.Proofs.YtgidajjjpeboeaaGreatDoor
