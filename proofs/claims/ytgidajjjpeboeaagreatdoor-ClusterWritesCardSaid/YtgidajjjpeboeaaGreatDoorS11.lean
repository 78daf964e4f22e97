/-
  The texts that the claim wants, one behind the other: part 11.
-/
import Derived.Test.YtgidajjjpeboeaaGreatDoorS10
import Derived.Carry
set_option linter.unusedSimpArgs false
set_option linter.unusedVariables false
namespace Go.Proofs.YtgidajjjpeboeaaGreatDoor
open Go.RowKit Go.Maps Go.MapKept Go.ChangeMaps
def plV : AV → Option Value
 | .int k n => some (.int k n)
 | .bool b => some (.bool b)
 | .str s => some (.string s)
 | _ => none
theorem plV_rel {σ : Sg} {v u : Value} {a : AV} (h : Rel1 σ v a) (hu : plV a = some u) : v = u := by cases h <;> simp [plV] at hu <;> exact hu
theorem plV_inj {a b : AV} {u : Value} (ha : plV a = some u) (hb : plV b = some u) : a = b := by
 cases a <;> simp [plV] at ha <;> subst ha <;> cases b <;> simp [plV] at hb <;> simp [hb]
theorem plV_one {a : AV} {u : Value} (h : plV a = some u) : u.oneCell' = true := by cases a <;> simp [plV] at h <;> subst h <;> rfl
def plVs : List AV → Option (List Value)
 | [] => some []
 | a :: l => match plV a, plVs l with
  | some u, some us => some (u :: us)
  | _, _ => none
theorem plVs_cons {a : AV} {l : List AV} {us : List Value} (h : plVs (a :: l) = some us) : ∃ u vs, us = u :: vs ∧ plV a = some u ∧ plVs l = some vs := by
 unfold plVs at h
 split at h
 ·rename_i u vs h1 h2
  cases h
  exact ⟨u, vs, rfl, h1, h2⟩
 ·cases h
theorem plVs_rel {σ : Sg} : ∀ {l : List AV} {vs us : List Value}, RelL σ vs l → plVs l = some us → vs = us
 | [], vs, us, h, hu => by cases hu; exact List.eq_nil_of_length_eq_zero h.1
 | a :: l, vs, us, h, hu => by
  obtain ⟨u, us', rfl, h1, h2⟩ := plVs_cons hu
  cases vs with
  | nil => have := h.1; simp at this
  | cons v vs => rw [plV_rel h.head h1, plVs_rel h.tail h2]
theorem plVs_inj : ∀ {a b : List AV} {us : List Value}, plVs a = some us → plVs b = some us → a = b
 | [], [], _, _, _ => rfl
 | [], y :: b, us, h, k => by obtain ⟨u, vs, rfl, _, _⟩ := plVs_cons k; cases h
 | x :: a, [], us, h, k => by obtain ⟨u, vs, rfl, _, _⟩ := plVs_cons h; cases k
 | x :: a, y :: b, us, h, k => by
  obtain ⟨u, vs, rfl, h1, h2⟩ := plVs_cons h
  obtain ⟨u', vs', e, k1, k2⟩ := plVs_cons k
  cases e
  rw [plV_inj h1 k1, plVs_inj h2 k2]
theorem plVs_len : ∀ {a : List AV} {us : List Value}, plVs a = some us → us.length = a.length
 | [], us, h => by cases h; rfl
 | x :: a, us, h => by obtain ⟨u, vs, rfl, _, h2⟩ := plVs_cons h; simp [plVs_len h2]
def valV (us : List Value) : Value := match us with
 | [u] => u
 | us => .agg us.toArray
def valA (cs : List AV) : AV := match cs with
 | [a] => a
 | cs => .agg cs
def keyV (κ : List AV) : Option Value := (plVs κ).map valV
theorem one_cells {v : Value} (h : v.oneCell' = true) : v.cells = #[v] := by cases v <;> first | rfl | cases h
theorem valV_of {v : Value} (h : OneV v) : v = valV v.cells.toList := by
 unfold OneV at h
 cases v with
 | agg cs =>
  have hc : (Value.agg cs).cells = cs := rfl
  rw [hc] at h ⊢
  by_cases h1 : cs.size = 1
  ·have := h h1; cases this
  ·unfold valV
   split
   ·rename_i u hu
    have := congrArg List.length hu
    simp at this
    exact absurd this h1
   ·simp
 | _ => rfl
theorem valV_inj {us vs : List Value} (hu : ∀ u ∈ us, u.oneCell' = true) (hv : ∀ u ∈ vs, u.oneCell' = true) (h : valV us = valV vs) : us = vs := by
 have key : ∀ {us : List Value}, (∀ u ∈ us, u.oneCell' = true) → (valV us).cells.toList = us := by
  intro us hu
  unfold valV
  split
  ·rename_i u
   rw [one_cells (hu u (by simp))]
  ·simp [Value.cells]
 rw [← key hu, ← key hv, h]
theorem plVs_one : ∀ {a : List AV} {us : List Value}, plVs a = some us → ∀ u ∈ us, u.oneCell' = true
 | [], us, h => by cases h; intro u hu; cases hu
 | x :: a, us, h => by
  obtain ⟨u, vs, rfl, h1, h2⟩ := plVs_cons h
  intro w hw
  rcases List.mem_cons.1 hw with rfl | hw
  ·exact plV_one h1
  ·exact plVs_one h2 w hw
theorem keyV_inj {a b : List AV} {v : Value} (ha : keyV a = some v) (hb : keyV b = some v) : a = b := by
 unfold keyV at ha hb
 cases h1 : plVs a with
 | none => rw [h1] at ha; cases ha
 | some us =>
  cases h2 : plVs b with
  | none => rw [h2] at hb; cases hb
  | some vs =>
   rw [h1] at ha; rw [h2] at hb
   simp only [Option.map_some, Option.some.injEq] at ha hb
   have e := valV_inj (plVs_one h1) (plVs_one h2) (ha.trans hb.symm)
   subst e
   exact plVs_inj h1 h2
theorem keyV_cells {σ : Sg} {v kv : Value} {κ : List AV} (ho : OneV v) (h : RelL σ v.cells.toList κ) (hk : keyV κ = some kv) : v = kv := by
 unfold keyV at hk
 cases h1 : plVs κ with
 | none => rw [h1] at hk; cases hk
 | some us =>
  rw [h1] at hk
  simp only [Option.map_some, Option.some.injEq] at hk
  rw [valV_of ho, plVs_rel h h1, hk]
theorem relP_valA {σ : Sg} {v : Value} {cs : List AV} (ho : OneV v) (h : RelL σ v.cells.toList cs) : RelP σ v (valA cs) := by
 rw [valV_of ho]
 unfold valA
 split
 ·rename_i a
  obtain ⟨u, hu⟩ : ∃ u, v.cells.toList = [u] := List.length_eq_one_iff.1 h.1
  rw [hu] at h ⊢
  have h1 : Rel1 σ u a := h.head
  show RelP σ u a
  cases a <;> first | exact h1 | cases h1
 ·rename_i hne
  have hv : valV v.cells.toList = .agg v.cells := by
   unfold valV
   split
   ·rename_i u hu
    rw [hu] at h
    obtain ⟨c, rfl⟩ := List.length_eq_one_iff.1 h.1.symm
    exact absurd rfl (hne c)
   ·simp
  rw [hv]
  exact ⟨v.cells.toList, by simp, h⟩
def AV.isAgg : AV → Bool
 | .agg _ => true
 | _ => false
def AV.isVal : AV → Bool
 | .int _ _ | .bool _ | .str _ | .lst _ _ _ | .ro _ | .fn _ _ | .raw _ | .top => true
 | _ => false
theorem isVal_agg {c : AV} (h : c.isVal = true) : c.isAgg = false := by cases c <;> first | rfl | cases h
theorem RelB1.val {σ : Sg} {B : Nat → Option Nat} {v : Value} {cs : List AV} (h : RelB1 σ B v (valA cs)) (hc : ∀ c ∈ cs, c.isVal = true) : RelP σ v (valA cs) := by
 unfold valA at h ⊢
 split at h
 ·rename_i a
  have ha := hc a (by simp)
  cases a <;> first | exact h | cases ha
 ·exact h
theorem plVs_val : ∀ {a : List AV} {us : List Value}, plVs a = some us → ∀ c ∈ a, c.isVal = true
 | [], us, _ => fun c hc => by cases hc
 | x :: a, us, h => by
  obtain ⟨u, vs, rfl, h1, h2⟩ := plVs_cons h
  intro c hc
  rcases List.mem_cons.1 hc with rfl | hc
  ·cases c <;> first | rfl | cases h1
  ·exact plVs_val h2 c hc
theorem keyV_val {κ : List AV} {kv : Value} (h : keyV κ = some kv) : ∀ c ∈ κ, c.isVal = true := by
 unfold keyV at h
 cases h1 : plVs κ with
 | none => rw [h1] at h; cases h
 | some us => exact plVs_val h1
theorem valA_relP {σ : Sg} {v : Value} {cs : List AV} (h : RelP σ v (valA cs)) (hc : ∀ c ∈ cs, c.isAgg = false) : OneV v ∧ RelL σ v.cells.toList cs := by
 unfold valA at h
 split at h
 ·rename_i a
  have h1 : Rel1 σ v a := by
   have ha := hc a (by simp)
   cases a <;> first | exact h | cases ha
  refine ⟨fun _ => h1.one, ?_⟩
  rw [one_cells h1.one]
  exact .cons h1 .nil
 ·rename_i hne
  obtain ⟨us, rfl, h1⟩ := h
  refine ⟨fun hs => ?_, by simpa [Value.cells] using h1⟩
  have : us.length = 1 := by simpa [Value.cells] using hs
  rw [h1.1] at this
  obtain ⟨c, rfl⟩ := List.length_eq_one_iff.1 this
  exact absurd rfl (hne c)
abbrev MRow := List AV × List AV
def mcA (rows : List MRow) : AV := .fn 0 (rows.map fun r => .fn r.1.length (r.1 ++ r.2))
def EntOk (σ : Sg) (e : MapEntry) (r : MRow) : Prop := RelL σ e.key.cells.toList r.1 ∧ RelL σ e.val.cells.toList r.2 ∧ OneV e.key ∧ OneV e.val
def EntsOk (σ : Sg) (ents : List MapEntry) (rows : List MRow) : Prop := ents.length = rows.length ∧ ∀ (j : Nat) e r, ents[j]? = some e → rows[j]? = some r → EntOk σ e r
theorem RelL.split {σ : Sg} {a b : List Value} {c d : List AV} (h : RelL σ (a ++ b) (c ++ d)) (hl : a.length = c.length) : RelL σ a c ∧ RelL σ b d := by
 have h1 := h.take a.length
 have h2 := h.drop a.length
 rw [List.take_left' rfl, List.take_left' hl.symm] at h1
 rw [List.drop_left' rfl, List.drop_left' hl.symm] at h2
 exact ⟨h1, h2⟩
theorem rel_fn {σ : Sg} {f : FuncId} {us : List Value} {cap : List AV} (h : RelL σ us cap) : Rel1 σ (.func (.func f) #[] us.toArray) (.fn f cap) :=
 .fn f cap us h.1 (fun j => us.getD j undef) (fun j v hv => by simp [List.getD, hv]) fun j a ha => by
  obtain ⟨v, hv, hr⟩ := h.at_ ha
  simp only [List.getD, hv]
  exact hr
theorem map_open {σ : Sg} {w : World} {g id : Nat} {t : TypeId} {vs : Array Value} {rows : List MRow} (hid : isMp id = true) (h : HeapAt w g id t vs) (hr : RelL σ vs.toList ([mcA rows].map AV.unown)) :
  ∃ ents clock, w.heap[g]? = some (.map ents clock) ∧ Stamped ents clock ∧ EntsOk σ ents.toList rows := by
 obtain ⟨o, h1, h2⟩ := h
 unfold ObjAt at h2
 rw [hid] at h2
 obtain ⟨ents, clock, rfl, hst, rfl, hone⟩ := h2
 refine ⟨ents, clock, h1, hst, ?_⟩
 have hm : Rel1 σ (mapV ents) (mcA rows) := hr.head
 obtain ⟨us, e1, hus⟩ := fn_open hm
 have hus2 : us = ents.toList.map entV := by
  unfold mapV at e1
  injection e1 with _ _ e1
  exact (List.toArray_inj e1).symm
 subst hus2
 refine ⟨by have := hus.1; simpa using this, fun j e r he hr => ?_⟩
 have h3 : Rel1 σ (entV e) (.fn r.1.length (r.1 ++ r.2)) := hus.2 j _ _ (by rw [List.getElem?_map, he]; rfl) (by rw [List.getElem?_map, hr]; rfl)
 obtain ⟨us2, e2, hus2⟩ := fn_open h3
 unfold entV at e2
 injection e2 with e2 _ e3
 injection e2 with e2
 have e4 : us2 = e.key.cells.toList ++ e.val.cells.toList := by
  have := congrArg Array.toList e3
  simpa using this.symm
 subst e4
 obtain ⟨q1, q2⟩ := hus2.split (by simpa using e2)
 exact ⟨q1, q2, (hone e (List.mem_of_getElem? he)).1, (hone e (List.mem_of_getElem? he)).2⟩
theorem map_close {σ : Sg} {w : World} {g id : Nat} {rows : List MRow} {ents : Array MapEntry} {clock : Nat} (hid : isMp id = true) (h : w.heap[g]? = some (.map ents clock)) (hst : Stamped ents clock) (hr : EntsOk σ ents.toList rows) :
  HeapAt w g id 0 #[mapV ents] ∧ RelL σ (#[mapV ents] : Array Value).toList ([mcA rows].map AV.unown) := by
 refine ⟨⟨_, h, ?_⟩, .cons (rel_fn ⟨by simpa using hr.1, fun j v a hv ha => ?_⟩) .nil⟩
 ·unfold ObjAt
  rw [hid]
  refine ⟨ents, clock, rfl, hst, rfl, fun e he => ?_⟩
  obtain ⟨j, hj⟩ := List.getElem?_of_mem he
  have hlt := (List.getElem?_eq_some_iff.1 hj).1
  obtain ⟨_, _, q3, q4⟩ := hr.2 j e _ hj (List.getElem?_eq_getElem (by rw [← hr.1]; exact hlt))
  exact ⟨q3, q4⟩
 ·rw [List.getElem?_map] at hv ha
  cases he : ents.toList[j]? with
  | none => rw [he] at hv; cases hv
  | some e =>
   cases hq : rows[j]? with
   | none => rw [hq] at ha; cases ha
   | some r =>
    rw [he] at hv; rw [hq] at ha
    cases hv; cases ha
    obtain ⟨q1, q2, _⟩ := hr.2 j e r he hq
    have e1 : e.key.cells.size = r.1.length := by have := q1.1; simpa using this
    unfold entV
    rw [e1, show e.key.cells ++ e.val.cells = (e.key.cells.toList ++ e.val.cells.toList).toArray by simp]
    exact rel_fn (q1.append q2)
section
variable {P : Program} {t k e : TypeId}
def KeysOk (P : Program) (k : TypeId) (rows : List MRow) : Prop := ∀ r ∈ rows, ∃ v l, keyV r.1 = some v ∧ keyOf P k v = some l
theorem ents_keys {σ : Sg} {ents : List MapEntry} {rows : List MRow} (h : EntsOk σ ents rows) (hk : KeysOk P k rows) : (∀ p ∈ ents.map (fun e => (e.key, e.val)), ∃ l, keyOf P k (id p.1) = some l) ∧ ∀ (j : Nat) e r, ents[j]? = some e → rows[j]? = some r → keyV r.1 = some e.key := by
 have key : ∀ (j : Nat) e r, ents[j]? = some e → rows[j]? = some r → keyV r.1 = some e.key ∧ ∃ l, keyOf P k e.key = some l := fun j e r he hr => by
  obtain ⟨q1, _, q3, _⟩ := h.2 j e r he hr
  obtain ⟨v, l, k1, k2⟩ := hk r (List.mem_of_getElem? hr)
  have := keyV_cells q3 q1 k1
  subst this
  exact ⟨k1, l, k2⟩
 refine ⟨fun p hp => ?_, fun j e r he hr => (key j e r he hr).1⟩
 obtain ⟨e, he, rfl⟩ := List.mem_map.1 hp
 obtain ⟨j, hj⟩ := List.getElem?_of_mem he
 have hlt := (List.getElem?_eq_some_iff.1 hj).1
 exact (key j e _ hj (List.getElem?_eq_getElem (by rw [← h.1]; exact hlt))).2
open Classical in
theorem mp_of {σ : Sg} {w : World} {g clock : Nat} {ents : Array MapEntry} {rows : List MRow} (hb : w.heap[g]? = some (.map ents clock)) (hst : Stamped ents clock) (h : EntsOk σ ents.toList rows) (hk : KeysOk P k rows) :
  Mp P k (id : Value → Value) w g (ents.toList.map fun e => (e.key, e.val)) := ⟨ents, clock, hb, hst, by simp, (ents_keys h hk).1⟩
theorem np_map {σ : Sg} {B : Nat → Option Nat} {v : Value} {id g : Nat} (hid : isMp id = true) (h : RelB1 σ B v (.np id 0)) (hB : B id = some g) : v = .map (some g) := by
 obtain ⟨g', h1, h2⟩ := h
 rw [h1, ← h2 g hB]
 unfold npV
 rw [hid]
theorem key_arg {σ : Sg} {B : Nat → Option Nat} {v kv : Value} {κ : List AV} (h : RelB1 σ B v (valA κ)) (hk : keyV κ = some kv) : v = kv := by
 unfold keyV at hk
 cases h1 : plVs κ with
 | none => rw [h1] at hk; cases hk
 | some us =>
  rw [h1] at hk
  simp only [Option.map_some, Option.some.injEq] at hk
  subst hk
  unfold valA at h
  split at h
  ·rename_i a
   obtain ⟨u, us', rfl, k1, k2⟩ := plVs_cons h1
   cases k2
   have h2 : Rel1 σ v a := by cases a <;> first | exact h | cases k1
   exact plV_rel h2 k1
  ·rename_i hne
   obtain ⟨vs, rfl, h2⟩ := h
   rw [plVs_rel h2 h1]
   have := plVs_len h1
   unfold valV
   split
   ·rename_i u
    obtain ⟨c, rfl⟩ := List.length_eq_one_iff.1 this.symm
    exact absurd rfl (hne c)
   ·rfl
theorem RelB.ofP2 {σ : Sg} {B : Nat → Option Nat} {v : Value} {a : AV} (h : RelP σ v a) (hn : a.isTup = false) : RelB σ B v a := by
 cases a with
 | tup l => cases hn
 | _ => exact (RelB1.ofP h : RelB1 σ B v _)
theorem valA_tup (cs : List AV) (h : ∀ c ∈ cs, c.isTup = false) : (valA cs).isTup = false := by
 unfold valA
 split
 ·exact h _ (by simp)
 ·rfl
def Found (rows : List MRow) (κ : List AV) : Option (List AV) → Prop
 | some vc => (κ, vc) ∈ rows
 | none => ∀ r ∈ rows, r.1 ≠ κ
open Classical in
theorem mget_of {σ : Sg} {w : World} {g clock : Nat} {ents : Array MapEntry} {rows : List MRow} (hb : w.heap[g]? = some (.map ents clock)) (hst : Stamped ents clock) (h : EntsOk σ ents.toList rows) (hk : KeysOk P k rows) {κ : List AV} {kv : Value} (hkv : keyV κ = some kv) {o : Option (List AV)} (ho : Found rows κ o) :
  match o with
  | some vc => ∃ v, mget (ents.toList.map fun e => (e.key, e.val)) kv = some v ∧ OneV v ∧ RelL σ v.cells.toList vc
  | none => mget (ents.toList.map fun e => (e.key, e.val)) kv = none := by
 have hm := mp_of hb hst h hk
 have hks := (ents_keys h hk).2
 cases o with
 | some vc =>
  obtain ⟨j, hj⟩ := List.getElem?_of_mem (show (κ, vc) ∈ rows from ho)
  have hlt := (List.getElem?_eq_some_iff.1 hj).1
  have he : ents.toList[j]? = some (ents.toList[j]'(by rw [h.1]; exact hlt)) := List.getElem?_eq_getElem _
  obtain ⟨_, q2, _, q4⟩ := h.2 j _ _ he hj
  have h1 := hks j _ _ he hj
  rw [hkv] at h1
  refine ⟨_, mget_at (j := j) hm.nodup (by rw [List.getElem?_map, he, Option.some.inj h1]; rfl), q4, q2⟩
 | none =>
  refine mget_none fun hin => ?_
  obtain ⟨p, hp, e1⟩ := List.mem_map.1 hin
  obtain ⟨e, he, rfl⟩ := List.mem_map.1 hp
  obtain ⟨j, hj⟩ := List.getElem?_of_mem he
  have hlt := (List.getElem?_eq_some_iff.1 hj).1
  have hr : rows[j]? = some (rows[j]'(by rw [← h.1]; exact hlt)) := List.getElem?_eq_getElem _
  have h1 := hks j _ _ hj hr
  have e1 : e.key = kv := e1
  rw [e1] at h1
  exact ho _ (List.mem_of_getElem? hr) (keyV_inj h1 hkv)
open Classical in
theorem mop_get {id : Nat} {rows : List MRow} {κ z : List AV} {kv zv : Value} {l : Lit} {o : Option (List AV)} (ok : Bool) (hid : isMp id = true) (ht : P.underlying t = some (.map k e)) (L : Keyed P k) (hk : KeysOk P k rows) (hkv : keyV κ = some kv) (hl : keyOf P k kv = some l)
  (hz : ∀ w, (zeroValue e).run P w = .ok zv w) (hzr : ∀ σ, RelP σ zv (valA z)) (ho : Found rows κ o) (htup : ∀ c ∈ o.getD z, c.isTup = false) :
  MOp P (.get t ok) [(id, [mcA rows])] [.np id 0, valA κ] [(id, [mcA rows])] (match ok with | true => .tup [valA (o.getD z), .bool o.isSome] | false => valA (o.getD z)) := by
 refine ⟨fun σ w B vs hh hg hdom hinj hgl hat hr => ?_⟩
 obtain ⟨v1, v2, rfl⟩ : ∃ a b, vs = [a, b] := by
  have := hr.1
  rcases vs with _ | ⟨a, _ | ⟨b, _ | ⟨c, l⟩⟩⟩ <;> simp at this
  exact ⟨a, b, rfl⟩
 obtain ⟨g, ty, us, hB, hH, hR, _, hfr⟩ := hat id [mcA rows] (by simp)
 obtain ⟨ents, clock, hb, hst, hE⟩ := map_open hid hH hR
 have e1 := np_map hid (hr.2 0 v1 _ rfl rfl) hB
 have e2 := key_arg (hr.2 1 v2 _ rfl rfl) hkv
 subst e1 e2
 have hM := mp_of (P := P) (k := k) hb hst hE hk
 have hrun := hM.run_lookup (t := t) L (fun a c h => h) ht hz (κ := v2) hl ok
 have hgt := mget_of (P := P) hb hst hE hk hkv ho
 obtain ⟨v, hv, hrel, hso⟩ : ∃ v, (mget (ents.toList.map fun e => (e.key, e.val)) v2).getD zv = v ∧ RelP σ v (valA (o.getD z)) ∧ (mget (ents.toList.map fun e => (e.key, e.val)) v2).isSome = o.isSome := by
  cases o with
  | some vc =>
   obtain ⟨v, q1, q2, q3⟩ := hgt
   exact ⟨v, by rw [q1]; rfl, relP_valA q2 q3, by rw [q1]; rfl⟩
  | none =>
   have hgt : mget (ents.toList.map fun e => (e.key, e.val)) v2 = none := hgt
   exact ⟨zv, by rw [hgt]; rfl, hzr σ, by rw [hgt]; rfl⟩
 rw [hv, hso] at hrun
 have hnt := valA_tup (o.getD z) htup
 refine ⟨_, w, σ, (if ok = true then .tuple #[v, .bool o.isSome] else v), B, ?_, rfl, (Ext.refl _ _).toK _, hh, BelowK.refl _ _, hdom, hinj, hat, ?_, fun id g h => .inl ⟨id, h⟩, fun id g g' h1 h2 => by rw [h1] at h2; cases h2; rfl⟩
 ·show (do pure (Next.value (← Instr.lookup t (.map (some g)) v2 ok)) : Sem Next).run P w = _
  simp only [Sem.run_bind]
  rw [show (Instr.lookup t (.map (some g)) v2 ok).run P w = _ from hrun]
  rfl
 ·cases ok with
  | false => exact RelB.ofP2 hrel hnt
  | true =>
   refine ⟨[v, .bool o.isSome], rfl, rfl, fun j u x hu hx => ?_⟩
   rcases j with _ | _ | j <;> simp at hu hx
   ·subst hu hx; exact RelB1.ofP hrel
   ·subst hu hx; exact RelB1.ofP (show Rel1 σ _ (.bool _) from .bool _)
open Classical in
noncomputable def putR (rows : List MRow) (κ vc : List AV) : List MRow := if ∃ r ∈ rows, r.1 = κ then rows.map (fun r => if r.1 = κ then (κ, vc) else r) else rows ++ [(κ, vc)]
open Classical in
noncomputable def delR (rows : List MRow) (κ : List AV) : List MRow := rows.filter fun r => decide (r.1 ≠ κ)
def PairsOk (σ : Sg) (m : List (Value × Value)) (rows : List MRow) : Prop := m.length = rows.length ∧ ∀ (j : Nat) p r, m[j]? = some p → rows[j]? = some r → RelL σ p.1.cells.toList r.1 ∧ RelL σ p.2.cells.toList r.2 ∧ OneV p.1 ∧ OneV p.2
theorem ents_pairs {σ : Sg} {ents : List MapEntry} {rows : List MRow} : EntsOk σ ents rows ↔ PairsOk σ (ents.map fun e => (e.key, e.val)) rows := by
 refine ⟨fun h => ⟨by rw [List.length_map]; exact h.1, fun j p r hp hr => ?_⟩, fun h => ⟨by have := h.1; rwa [List.length_map] at this, fun j e r he hr => h.2 j (e.key, e.val) r (by rw [List.getElem?_map, he]; rfl) hr⟩⟩
 rw [List.getElem?_map] at hp
 cases he : ents[j]? with
 | none => rw [he] at hp; cases hp
 | some e => rw [he] at hp; cases hp; exact h.2 j e r he hr
open Classical in
theorem pairs_put {σ : Sg} {m : List (Value × Value)} {rows : List MRow} (h : PairsOk σ m rows) (hk : KeysOk P k rows) {κ vc : List AV} {kv v : Value} (hkv : keyV κ = some kv) (h1 : OneV kv ∧ RelL σ kv.cells.toList κ) (h2 : OneV v ∧ RelL σ v.cells.toList vc) : PairsOk σ (mput m kv v) (putR rows κ vc) := by
 have hkey : ∀ (j : Nat) p r, m[j]? = some p → rows[j]? = some r → (p.1 = kv ↔ r.1 = κ) := fun j p r hp hr => by
  obtain ⟨q1, _, q3, _⟩ := h.2 j p r hp hr
  obtain ⟨u, l, k1, k2⟩ := hk r (List.mem_of_getElem? hr)
  have := keyV_cells q3 q1 k1
  subst this
  exact ⟨fun e => keyV_inj (e ▸ k1) hkv, fun e => by rw [e, hkv] at k1; exact (Option.some.inj k1).symm⟩
 have hiff : kv ∈ m.map (·.1) ↔ ∃ r ∈ rows, r.1 = κ := by
  constructor
  ·intro hin
   obtain ⟨p, hp, e⟩ := List.mem_map.1 hin
   obtain ⟨j, hj⟩ := List.getElem?_of_mem hp
   have hlt := (List.getElem?_eq_some_iff.1 hj).1
   have hr : rows[j]? = some (rows[j]'(by rw [← h.1]; exact hlt)) := List.getElem?_eq_getElem _
   exact ⟨_, List.mem_of_getElem? hr, (hkey j p _ hj hr).1 e⟩
  ·rintro ⟨r, hr, e⟩
   obtain ⟨j, hj⟩ := List.getElem?_of_mem hr
   have hlt := (List.getElem?_eq_some_iff.1 hj).1
   have hp : m[j]? = some (m[j]'(by rw [h.1]; exact hlt)) := List.getElem?_eq_getElem _
   exact List.mem_map.2 ⟨_, List.mem_of_getElem? hp, (hkey j _ r hp hj).2 e⟩
 unfold mput putR
 by_cases hin : kv ∈ m.map (·.1)
 ·rw [if_pos hin, if_pos (hiff.1 hin)]
  refine ⟨by rw [List.length_map, List.length_map]; exact h.1, fun j p r hp hr => ?_⟩
  rw [List.getElem?_map] at hp hr
  cases hp0 : m[j]? with
  | none => rw [hp0] at hp; cases hp
  | some p0 =>
   cases hr0 : rows[j]? with
   | none => rw [hr0] at hr; cases hr
   | some r0 =>
    rw [hp0] at hp; rw [hr0] at hr
    simp only [Option.map_some, Option.some.injEq] at hp hr
    by_cases e : p0.1 = kv
    ·rw [if_pos e] at hp
     rw [if_pos ((hkey j p0 r0 hp0 hr0).1 e)] at hr
     subst hp hr
     exact ⟨h1.2, h2.2, h1.1, h2.1⟩
    ·rw [if_neg e] at hp
     rw [if_neg (fun e2 => e ((hkey j p0 r0 hp0 hr0).2 e2))] at hr
     subst hp hr
     exact h.2 j _ _ hp0 hr0
 ·rw [if_neg hin, if_neg (fun hx => hin (hiff.2 hx))]
  refine ⟨by simp [h.1], fun j p r hp hr => ?_⟩
  by_cases hj : j < m.length
  ·rw [List.getElem?_append_left hj] at hp
   rw [List.getElem?_append_left (by rw [← h.1]; exact hj)] at hr
   exact h.2 j p r hp hr
  ·rw [List.getElem?_append_right (by omega)] at hp
   rw [List.getElem?_append_right (by rw [← h.1]; omega), ← h.1] at hr
   cases hd : j - m.length with
   | zero =>
    rw [hd] at hp hr
    simp at hp hr
    subst hp hr
    exact ⟨h1.2, h2.2, h1.1, h2.1⟩
   | succ n => rw [hd] at hp; simp at hp
theorem grown_belowK {w w' : World} {g : Nat} {K : Nat → Prop} (h : w.grownBy w' (some g)) (hK : K g) : BelowK K w w' := ⟨h.os, h.tape, h.output, h.size, fun i hi hn => h.block i hi fun e => hn (by cases e; exact hK)⟩
open Classical in
theorem mop_set {id : Nat} {rows : List MRow} {κ vc : List AV} {kv : Value} {l : Lit} (hid : isMp id = true) (ht : P.underlying t = some (.map k e)) (L : Keyed P k) (hk : KeysOk P k rows) (hkv : keyV κ = some kv) (hl : keyOf P k kv = some l) (hc : ∀ c ∈ vc, c.isVal = true) :
  MOp P (.set t) [(id, [mcA rows])] [.np id 0, valA κ, valA vc] [(id, [mcA (putR rows κ vc)])] (.bool true) := by
 refine ⟨fun σ w B vs hh hg hdom hinj hgl hat hr => ?_⟩
 obtain ⟨v1, v2, v3, rfl⟩ : ∃ a b c, vs = [a, b, c] := by
  have := hr.1
  rcases vs with _ | ⟨a, _ | ⟨b, _ | ⟨c, _ | ⟨d, l⟩⟩⟩⟩ <;> simp at this
  exact ⟨a, b, c, rfl⟩
 obtain ⟨g, ty, us, hB, hH, hR, _, hfr⟩ := hat id [mcA rows] (by simp)
 obtain ⟨ents, clock, hb, hst, hE⟩ := map_open hid hH hR
 have e1 := np_map hid (hr.2 0 v1 _ rfl rfl) hB
 have h2 := hr.2 1 v2 _ rfl rfl
 have e2 := key_arg h2 hkv
 obtain ⟨o2, r2⟩ := valA_relP (RelB1.val h2 (keyV_val hkv)) fun c hc => isVal_agg (keyV_val hkv c hc)
 obtain ⟨o3, r3⟩ := valA_relP (RelB1.val (hr.2 2 v3 _ rfl rfl) hc) fun c h => isVal_agg (hc c h)
 subst e1 e2
 have hM := mp_of (P := P) (k := k) hb hst hE hk
 obtain ⟨w', hrun, hM', hgr⟩ := hM.run_update (t := t) L (fun a c h => h) ht (κ := v2) hl v3
 obtain ⟨ents', clock', hb', hst', hm', _⟩ := hM'
 have hp := pairs_put (P := P) (k := k) (ents_pairs.1 hE) hk hkv ⟨o2, r2⟩ ⟨o3, r3⟩
 rw [show (fun p : Value × Value => (_root_.id p.1, p.2)) = fun p => p from rfl, List.map_id'] at hm'
 rw [← hm'] at hp
 obtain ⟨q1, q2⟩ := map_close (σ := σ) hid hb' hst' (ents_pairs.2 hp)
 have hKg : ∃ i, B i = some g := ⟨id, hB⟩
 have hglt : g < w.heap.size := (Array.getElem?_eq_some_iff.1 hb).1
 refine ⟨_, w', σ, .bool true, B, ?_, rfl, (Ext.refl _ _).toK _, fun b q v hv => ?_, grown_belowK hgr hKg, fun i g' h => by simpa [domS] using hdom i g' h, hinj, fun i cs hm => ?_, RelB.ofP2 (show Rel1 σ _ (.bool _) from .bool _) rfl, fun i g' h => .inl ⟨i, h⟩, fun i g1 g2 h1 h2 => by rw [h1] at h2; cases h2; rfl⟩
 ·show (do Instr.mapUpdate t (.map (some g)) v2 v3; pure Next.skip : Sem Next).run P w = _
  simp only [Sem.run_bind]
  rw [show (Instr.mapUpdate t (.map (some g)) v2 v3).run P w = _ from hrun]
  rfl
 ·have hbg : b ≠ g := fun e => by subst e; rw [hfr q] at hv; cases hv
  have h0 := hh b q v hv
  have hlt := World.block_lt_of_cell? w _ h0
  exact (World.cell?_of_block (w := w) (a := ⟨b, q, none⟩) (hgr.block b hlt fun e => hbg (by cases e; rfl))).trans h0
 ·simp only [List.mem_singleton, Prod.mk.injEq] at hm
  obtain ⟨rfl, rfl⟩ := hm
  refine ⟨g, 0, _, hB, q1, q2, fun j v a hv ha => ?_, hfr⟩
  rcases j with _ | j
  ·simp at ha; subst ha; exact trivial
  ·simp at ha
theorem mop_new {id : Nat} (hid : isMp id = true) : MOp P (.new t) [] [] [(id, [mcA []])] (.np id 0) := by
 refine ⟨fun σ w B vs hh hg hdom hinj hgl hat hr => ?_⟩
 have hvs : vs = [] := List.eq_nil_of_length_eq_zero hr.1
 subst hvs
 have hBn : ∀ i g, B i ≠ some g := fun i g h => by have := hdom i g h; simp [domS] at this
 have hbl : Below w.heap.size w (w.alloc (.map #[] 0)) := (Below.refl _ _).alloc (Nat.le_refl _) _
 have hnew : (w.alloc (.map #[] 0)).heap[w.heap.size]? = some (.map #[] 0) := heap_alloc_new w _
 obtain ⟨q1, q2⟩ := map_close (σ := σ) (rows := []) hid hnew (stamped_empty 0) ⟨rfl, fun j e r he => by simp at he⟩
 refine ⟨_, w.alloc (.map #[] 0), σ, npV id w.heap.size 0, fun i => if i = id then some w.heap.size else none, ?_, rfl, (Ext.refl _ _).toK _, fun b q v hv => ?_, BelowK.of hbl _, fun i g h => ?_, fun i j g h1 h2 => ?_, fun i cs hm => ?_, ?_, fun i g h => ?_, fun i g g' h => absurd h (hBn i g)⟩
 ·show (do pure (Next.value (← Instr.makeMap t none)) : Sem Next).run P w = _
  simp only [Sem.run_bind]
  rw [run_makeMap]
  unfold npV
  rw [hid]
  rfl
 ·have h0 := hh b q v hv
  exact (hbl.cell (p := ⟨b, q, none⟩) (World.block_lt_of_cell? w _ h0)).trans h0
 ·simp only at h
  split at h
  ·rename_i e; subst e; simp [domS]
  ·cases h
 ·simp only at h1 h2
  split at h1
  ·rename_i e1
   split at h2
   ·rename_i e2; exact e1.trans e2.symm
   ·cases h2
  ·cases h1
 ·simp only [List.mem_singleton, Prod.mk.injEq] at hm
  obtain ⟨rfl, rfl⟩ := hm
  refine ⟨w.heap.size, 0, _, if_pos rfl, q1, q2, fun j v a hv ha => ?_, fun j => ?_⟩
  ·rcases j with _ | j
   ·simp at ha; subst ha; exact trivial
   ·simp at ha
  ·cases hs : σ w.heap.size j with
   | none => rfl
   | some u => have := World.block_lt_of_cell? w _ (hh _ _ _ hs); simp at this
 ·exact ⟨w.heap.size, rfl, fun g' h => by simp only [if_pos] at h; cases h; rfl⟩
 ·simp only at h
  split at h
  ·cases h; exact .inr (Nat.le_refl _)
  ·cases h
theorem eraseIdx_filter {α : Type} {p : α → Bool} : ∀ {l : List α} {j : Nat} {x : α}, l[j]? = some x → p x = false → (∀ i y, l[i]? = some y → i ≠ j → p y = true) → l.eraseIdx j = l.filter p
 | [], j, x, h, _, _ => by cases h
 | y :: l, 0, x, h, hp, ho => by
  cases h
  rw [List.eraseIdx_zero, List.tail_cons, List.filter_cons, if_neg (by simp [hp])]
  refine (List.filter_eq_self.2 fun z hz => ?_).symm
  obtain ⟨i, hi⟩ := List.getElem?_of_mem hz
  exact ho (i + 1) z (by simpa using hi) (by omega)
 | y :: l, j + 1, x, h, hp, ho => by
  rw [List.eraseIdx_cons_succ, List.filter_cons, if_pos (ho 0 y rfl (by omega)), eraseIdx_filter (l := l) (j := j) (by simpa using h) hp fun i z hi hne => ho (i + 1) z (by simpa using hi) (by omega)]
theorem ents_erase {σ : Sg} {ents : List MapEntry} {rows : List MRow} (h : EntsOk σ ents rows) (j : Nat) : EntsOk σ (ents.eraseIdx j) (rows.eraseIdx j) := by
 refine ⟨by rw [List.length_eraseIdx, List.length_eraseIdx, h.1], fun i e r he hr => ?_⟩
 rw [List.getElem?_eraseIdx] at he hr
 by_cases hij : i < j
 ·rw [if_pos hij] at he hr; exact h.2 i e r he hr
 ·rw [if_neg hij] at he hr; exact h.2 _ e r he hr
open Classical in
theorem mop_del {id : Nat} {rows : List MRow} {κ : List AV} {kv : Value} {l : Lit} {ty : TypeId} (hid : isMp id = true) (ht : P.underlying t = some (.map k e)) (L : Keyed P k) (hk : KeysOk P k rows) (hkv : keyV κ = some kv) (hl : keyOf P k kv = some l) :
  MOp P (.del t k ty) [(id, [mcA rows])] [.np id 0, valA κ] [(id, [mcA (delR rows κ)])] (.tup []) := by
 refine ⟨fun σ w B vs hh hg hdom hinj hgl hat hr => ?_⟩
 obtain ⟨v1, v2, rfl⟩ : ∃ a b, vs = [a, b] := by
  have := hr.1
  rcases vs with _ | ⟨a, _ | ⟨b, _ | ⟨c, l⟩⟩⟩ <;> simp at this
  exact ⟨a, b, rfl⟩
 obtain ⟨g, ty0, us, hB, hH, hR, _, hfr⟩ := hat id [mcA rows] (by simp)
 obtain ⟨ents, clock, hb, hst, hE⟩ := map_open hid hH hR
 have e1 := np_map hid (hr.2 0 v1 _ rfl rfl) hB
 have e2 := key_arg (hr.2 1 v2 _ rfl rfl) hkv
 subst e1 e2
 obtain ⟨hkeys0, hks⟩ := ents_keys (P := P) (k := k) hE hk
 have hkeys : ∀ x ∈ ents.toList, ∃ l, keyOf P k x.key = some l := fun x hx => hkeys0 (x.key, x.val) (List.mem_map.2 ⟨x, hx, rfl⟩)
 have hat2 : ∀ (j : Nat) e0 r, ents.toList[j]? = some e0 → rows[j]? = some r → (e0.key = v2 ↔ r.1 = κ) := fun j e0 r he hr => by
  have h1 := hks j e0 r he hr
  exact ⟨fun e => keyV_inj (e ▸ h1) hkv, fun e => by rw [e, hkv] at h1; exact (Option.some.inj h1).symm⟩
 obtain ⟨ents', hrun, hst', hE'⟩ : ∃ ents', (Builtin.delete_ #[t, k] ty #[.map (some g), v2]).run P w = .ok (.tuple #[]) (setBlock w g (.map ents' clock)) ∧ Stamped ents' clock ∧ EntsOk σ ents'.toList (delR rows κ) := by
  rcases L.find w hl ents.toList hkeys with ⟨h1, h2⟩ | ⟨j, e0, h1, h2, h3⟩
  ·refine ⟨ents, ?_, hst, ?_⟩
   ·simp [Builtin.delete_, run_underlying ht, MapKept.run_getObj_map hb, L.check w _ hl, h1, MapKept.run_setObj_map _ hb, Result.andThen, setBlock]
   ·have : delR rows κ = rows := List.filter_eq_self.2 fun r hr => by
     obtain ⟨j, hj⟩ := List.getElem?_of_mem hr
     have hlt := (List.getElem?_eq_some_iff.1 hj).1
     have he : ents.toList[j]? = some (ents.toList[j]'(by rw [hE.1]; exact hlt)) := List.getElem?_eq_getElem _
     simp only [ne_eq, decide_not, Bool.not_eq_true', decide_eq_false_iff_not]
     exact fun e => h2 _ (List.mem_of_getElem? he) ((hat2 j _ r he hj).2 e)
    rw [this]
    exact hE
  ·have hjl : j < ents.toList.length := (List.getElem?_eq_some_iff.1 h2).1
   have hjs : j < ents.size := by simpa using hjl
   have hsub : (ents.eraseIdxIfInBounds j).toList = ents.toList.eraseIdx j := by
    unfold Array.eraseIdxIfInBounds
    rw [dif_pos hjs]
    simp
   refine ⟨ents.eraseIdxIfInBounds j, ?_, stamped_erase hst j, ?_⟩
   ·simp [Builtin.delete_, run_underlying ht, MapKept.run_getObj_map hb, L.check w _ hl, h1, MapKept.run_setObj_map _ hb, Result.andThen, setBlock]
   ·have hr : rows[j]? = some (rows[j]'(by rw [← hE.1]; exact hjl)) := List.getElem?_eq_getElem _
    have hrk := (hat2 j e0 _ h2 hr).1 h3
    have : delR rows κ = rows.eraseIdx j := by
     refine (eraseIdx_filter hr (decide_eq_false fun hx => hx hrk) fun i y hi hne => ?_).symm
     simp only [ne_eq, decide_not, Bool.not_eq_true', decide_eq_false_iff_not]
     intro e
     have hil := (List.getElem?_eq_some_iff.1 hi).1
     have he : ents.toList[i]? = some (ents.toList[i]'(by rw [hE.1]; exact hil)) := List.getElem?_eq_getElem _
     have q1 := (hat2 i _ y he hi).2 e
     have hnd := hst.2.2
     have a1 : (ents.toList.map (·.key))[i]? = some v2 := by rw [List.getElem?_map, he]; exact congrArg some q1
     have a2 : (ents.toList.map (·.key))[j]? = some v2 := by rw [List.getElem?_map, h2]; simp [h3]
     have l1 := (List.getElem?_eq_some_iff.1 a1).1
     exact hne ((List.getElem?_inj l1 hnd).1 (a1.trans a2.symm))
    rw [this, hsub]
    exact ents_erase hE j
 have hb' : (setBlock w g (.map ents' clock)).heap[g]? = some (.map ents' clock) := heap_setBlock_same hb _
 obtain ⟨q1, q2⟩ := map_close (σ := σ) hid hb' hst' hE'
 have hgr : w.grownBy (setBlock w g (.map ents' clock)) (some g) := ⟨rfl, rfl, rfl, by simp [setBlock], fun i _ hi => heap_setBlock_other hb _ (fun e1 => hi (by rw [e1]))⟩
 refine ⟨_, _, σ, .tuple #[], B, ?_, rfl, (Ext.refl _ _).toK _, fun b q v hv => ?_, grown_belowK hgr ⟨id, hB⟩, fun i g' h => by simpa [domS] using hdom i g' h, hinj, fun i cs hm => ?_, ⟨[], rfl, rfl, fun j u x hu => by simp at hu⟩, fun i g' h => .inl ⟨i, h⟩, fun i g1 g2 h1 h2 => by rw [h1] at h2; cases h2; rfl⟩
 ·show (do pure (Next.value (← Builtin.delete_ #[t, k] ty #[.map (some g), v2])) : Sem Next).run P w = _
  simp only [Sem.run_bind]
  rw [hrun]
  rfl
 ·have hbg : b ≠ g := fun e => by subst e; rw [hfr q] at hv; cases hv
  have h0 := hh b q v hv
  have hlt := World.block_lt_of_cell? w _ h0
  exact (World.cell?_of_block (w := w) (a := ⟨b, q, none⟩) (hgr.block b hlt fun e => hbg (by cases e; rfl))).trans h0
 ·simp only [List.mem_singleton, Prod.mk.injEq] at hm
  obtain ⟨rfl, rfl⟩ := hm
  refine ⟨g, 0, _, hB, q1, q2, fun j v a hv ha => ?_, hfr⟩
  rcases j with _ | j
  ·simp at ha; subst ha; exact trivial
  ·simp at ha
end
end Go.Proofs.YtgidajjjpeboeaaGreatDoor
