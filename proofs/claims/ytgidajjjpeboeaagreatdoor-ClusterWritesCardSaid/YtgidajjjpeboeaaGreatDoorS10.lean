/-
  The texts that the claim wants, one behind the other: part 10.
-/
import Derived.Test.YtgidajjjpeboeaaGreatDoorS9
import Derived.Maps.OwnOps
import Derived.Maps.Keyed
set_option linter.unusedSimpArgs false
set_option linter.unusedVariables false
namespace Go.Proofs.YtgidajjjpeboeaaGreatDoor
open Go.RowKit Go.Maps Go.MapKept Go.ChangeMaps
set_option linter.unusedSectionVars false
section
variable {K : Type} [DecidableEq K]
def mget (m : List (K × Value)) (κ : K) : Option Value := (m.find? fun p => decide (p.1 = κ)).map (·.2)
def mput (m : List (K × Value)) (κ : K) (v : Value) : List (K × Value) := if κ ∈ m.map (·.1) then m.map (fun p => if p.1 = κ then (κ, v) else p) else m ++ [(κ, v)]
def Mp (P : Program) (k : TypeId) (enc : K → Value) (w : World) (b : Nat) (m : List (K × Value)) : Prop :=
 ∃ (ents : Array MapEntry) (clock : Nat), w.heap[b]? = some (.map ents clock) ∧ Stamped ents clock ∧ ents.toList.map (fun e => (e.key, e.val)) = m.map (fun p => (enc p.1, p.2)) ∧
  ∀ p ∈ m, ∃ l, keyOf P k (enc p.1) = some l
variable {P : Program} {k e t : TypeId} {enc : K → Value} {w w' : World} {b : Nat} {m : List (K × Value)}
theorem Mp.find (h : Mp P k enc w b m) (L : Keyed P k) (hinj : ∀ a c, enc a = enc c → a = c) {κ : K} {l : Lit} (hkey : keyOf P k (enc κ) = some l) :
  ∃ (ents : Array MapEntry) (clock : Nat), w.heap[b]? = some (.map ents clock) ∧ Stamped ents clock ∧ ents.toList.map (fun e => (e.key, e.val)) = m.map (fun p => (enc p.1, p.2)) ∧
   ((∀ w, (Instr.findKey k (enc κ) ents.toList).run P w = .ok none w) ∧ (∀ x ∈ ents.toList, x.key ≠ enc κ) ∧ κ ∉ m.map (·.1) ∨
    ∃ (j : Nat) (e0 : MapEntry) (v : Value), (∀ w, (Instr.findKey k (enc κ) ents.toList).run P w = .ok (some (j, e0.val)) w) ∧ ents.toList[j]? = some e0 ∧ e0.key = enc κ ∧ e0.val = v ∧ m[j]? = some (κ, v)) := by
 obtain ⟨ents, clock, hb, hst, hm, hk⟩ := h
 refine ⟨ents, clock, hb, hst, hm, ?_⟩
 have hkeys : ∀ x ∈ ents.toList, ∃ l, keyOf P k x.key = some l := by
  intro x hx
  have : (x.key, x.val) ∈ ents.toList.map (fun e => (e.key, e.val)) := List.mem_map.2 ⟨x, hx, rfl⟩
  rw [hm] at this
  obtain ⟨p, hp, e1⟩ := List.mem_map.1 this
  obtain ⟨l, hl⟩ := hk p hp
  simp only [Prod.mk.injEq] at e1
  exact ⟨l, by rw [← e1.1]; exact hl⟩
 have hat : ∀ (j : Nat) (e0 : MapEntry), ents.toList[j]? = some e0 → ∃ q, m[j]? = some q ∧ e0.key = enc q.1 ∧ e0.val = q.2 := by
  intro j e0 hj
  have h1 : (ents.toList.map (fun e => (e.key, e.val)))[j]? = some (e0.key, e0.val) := by simp [hj]
  rw [hm, List.getElem?_map] at h1
  obtain ⟨q, hq, e1⟩ := Option.map_eq_some_iff.1 h1
  simp only [Prod.mk.injEq] at e1
  exact ⟨q, hq, e1.1.symm, e1.2.symm⟩
 rcases L.find w hkey ents.toList hkeys with ⟨h1, h2⟩ | ⟨j, e0, h1, h2, h3⟩
 ·refine .inl ⟨fun w' => ?_, h2, ?_⟩
  ·rcases L.find w' hkey ents.toList hkeys with ⟨g1, _⟩ | ⟨j, e0, _, g2, g3⟩
   ·exact g1
   ·exact absurd g3 (h2 e0 (List.mem_of_getElem? g2))
  ·intro hin
   obtain ⟨p, hp, e1⟩ := List.mem_map.1 hin
   obtain ⟨j, hj⟩ := List.getElem?_of_mem hp
   have h4 : (m.map (fun p => (enc p.1, p.2)))[j]? = some (enc p.1, p.2) := by simp [hj]
   rw [← hm, List.getElem?_map] at h4
   obtain ⟨x, hx, e2⟩ := Option.map_eq_some_iff.1 h4
   simp only [Prod.mk.injEq] at e2
   exact h2 x (List.mem_of_getElem? hx) (by rw [e2.1, e1])
 ·obtain ⟨q, hq, e1, e2⟩ := hat j e0 h2
  have hqκ : q.1 = κ := hinj _ _ (by rw [← e1, h3])
  refine .inr ⟨j, e0, q.2, fun w' => ?_, h2, h3, e2, ?_⟩
  ·rcases L.find w' hkey ents.toList hkeys with ⟨_, g2⟩ | ⟨j', e', g1, g2, g3⟩
   ·exact absurd h3 (g2 e0 (List.mem_of_getElem? h2))
   ·have hnd := hst.2.2
    have hj : j' = j := by
     have a1 : (ents.toList.map (·.key))[j']? = some (enc κ) := by simp [g2, g3]
     have a2 : (ents.toList.map (·.key))[j]? = some (enc κ) := by simp [h2, h3]
     have l1 := (List.getElem?_eq_some_iff.1 a1).1
     exact (List.getElem?_inj l1 hnd).1 (a1.trans a2.symm)
    subst hj
    rw [h2] at g2
    injection g2 with g2
    subst g2
    exact g1
  ·rw [hq, ← hqκ]
theorem Mp.nodup (h : Mp P k enc w b m) : (m.map (·.1)).Nodup := by
 obtain ⟨ents, clock, hb, hst, hm, hk⟩ := h
 have h1 : ents.toList.map (·.key) = m.map (fun p => enc p.1) := by
  have := congrArg (List.map (·.1)) hm
  simpa [Function.comp_def] using this
 have h2 := hst.2.2
 rw [h1] at h2
 have h3 : (m.map (fun p => enc p.1)) = (m.map (·.1)).map enc := by simp [Function.comp_def]
 rw [h3, List.Nodup, List.pairwise_map] at h2
 exact h2.imp fun h e => h (by rw [e])
theorem mget_at {j : Nat} {κ : K} {v : Value} (hn : (m.map (·.1)).Nodup) (h : m[j]? = some (κ, v)) : mget m κ = some v := by
 unfold mget
 have hj := (List.getElem?_eq_some_iff.1 h).1
 have hf : m.find? (fun p => decide (p.1 = κ)) = some (κ, v) := by
  rw [List.find?_eq_some_iff_getElem]
  refine ⟨by simp, j, hj, (List.getElem?_eq_some_iff.1 h).2, fun i hi => ?_⟩
  simp only [decide_eq_true_eq, Bool.not_eq_true', decide_eq_false_iff_not]
  intro he
  have a1 : (m.map (·.1))[i]? = some κ := by rw [List.getElem?_map, List.getElem?_eq_getElem (by omega)]; simp [he]
  have a2 : (m.map (·.1))[j]? = some κ := by simp [h]
  have := (List.getElem?_inj (by simp; omega) hn).1 (a1.trans a2.symm)
  omega
 rw [hf]; rfl
theorem mget_none {κ : K} (h : κ ∉ m.map (·.1)) : mget m κ = none := by
 unfold mget
 rw [List.find?_eq_none.2]
 ·rfl
 ·intro p hp
  simp only [decide_eq_true_eq]
  intro e
  exact h (List.mem_map.2 ⟨p, hp, e⟩)
theorem Mp.run_lookup (h : Mp P k enc w b m) (L : Keyed P k) (hinj : ∀ a c, enc a = enc c → a = c) (ht : P.underlying t = some (.map k e)) {z : Value} (hz : ∀ w, (zeroValue e).run P w = .ok z w) {κ : K} {l : Lit} (hkey : keyOf P k (enc κ) = some l) (okc : Bool) :
  (Instr.lookup t (.map (some b)) (enc κ) okc).run P w = .ok (if okc then .tuple #[(mget m κ).getD z, .bool (mget m κ).isSome] else (mget m κ).getD z) w := by
 have hn := h.nodup
 obtain ⟨ents, clock, hb, hst, hm, hc⟩ := h.find L hinj hkey
 rcases hc with ⟨h1, _, h3⟩ | ⟨j, e0, v, h1, h2, h3, h4, h5⟩
 ·rw [mget_none h3]
  cases okc <;> simp [Instr.lookup, run_underlying ht, MapKept.run_getObj_map hb, L.check w _ hkey, h1, hz, Result.andThen]
 ·rw [mget_at hn h5]
  cases okc <;> simp [Instr.lookup, run_underlying ht, MapKept.run_getObj_map hb, L.check w _ hkey, h1, h4, Result.andThen]
theorem Mp.run_update (h : Mp P k enc w b m) (L : Keyed P k) (hinj : ∀ a c, enc a = enc c → a = c) (ht : P.underlying t = some (.map k e)) {κ : K} {l : Lit} (hkey : keyOf P k (enc κ) = some l) (v : Value) :
  ∃ w', (Instr.mapUpdate t (.map (some b)) (enc κ) v).run P w = .ok () w' ∧ Mp P k enc w' b (mput m κ v) ∧ w.grownBy w' (some b) := by
 have hn := h.nodup
 have hks : ∀ p ∈ m, ∃ l, keyOf P k (enc p.1) = some l := by obtain ⟨_, _, _, _, _, hk⟩ := h; exact hk
 obtain ⟨ents, clock, hb, hst, hm, hc⟩ := h.find L hinj hkey
 have gr : ∀ o, w.grownBy (setBlock w b o) (some b) := fun o => ⟨rfl, rfl, rfl, by simp [setBlock], fun i _ hi => heap_setBlock_other hb o (fun e1 => hi (by rw [e1]))⟩
 rcases hc with ⟨h1, h2, h3⟩ | ⟨j, e0, u, h1, h2, h3, h4, h5⟩
 ·refine ⟨setBlock w b (.map (ents.push ⟨enc κ, v, clock⟩) (clock + 1)), ?_, ⟨_, _, heap_setBlock_same hb _, stamped_push hst h2, ?_, ?_⟩, gr _⟩
  ·simp [Instr.mapUpdate, run_underlying ht, MapKept.run_getObj_map hb, L.check w false hkey, h1, MapKept.run_setObj_map _ hb, Result.andThen, setBlock]
  ·rw [mput, if_neg h3, Array.toList_push, List.map_append, List.map_append, hm]; rfl
  ·rw [mput, if_neg h3]
   intro p hp
   rcases List.mem_append.1 hp with hp | hp
   ·exact hks p hp
   ·simp at hp; subst hp; exact ⟨l, hkey⟩
 ·have hj : ents[j]? = some e0 := by simpa using h2
  have hin : κ ∈ m.map (·.1) := List.mem_map.2 ⟨_, List.mem_of_getElem? h5, rfl⟩
  have hjl := (List.getElem?_eq_some_iff.1 h5).1
  have hlist : (ents.modify j (fun e' => { e' with key := enc κ, val := v })).toList = ents.toList.set j { e0 with key := enc κ, val := v } := by rw [Array.toList_modify, modify_eq_set _ _ _ _ h2]
  have hput : mput m κ v = m.set j (κ, v) := by
   rw [mput, if_pos hin]
   apply List.ext_getElem?
   intro i
   rw [List.getElem?_map, List.getElem?_set]
   by_cases hij : j = i
   ·subst hij
    rw [if_pos rfl, h5]; simp [hjl]
   ·rw [if_neg hij]
    cases hi : m[i]? with
    | none => rfl
    | some q =>
     have : q.1 ≠ κ := by
      intro e1
      have a1 : (m.map (·.1))[i]? = some κ := by simp [hi, e1]
      have a2 : (m.map (·.1))[j]? = some κ := by simp [h5]
      have l1 := (List.getElem?_eq_some_iff.1 a1).1
      exact hij ((List.getElem?_inj l1 hn).1 (a1.trans a2.symm)).symm
     simp [this]
  refine ⟨setBlock w b (.map (ents.modify j (fun e' => { e' with key := enc κ, val := v })) clock), ?_, ⟨_, _, heap_setBlock_same hb _, stamped_modify hst _ _ (fun _ _ => rfl) (fun e' _ he' => by rw [hj] at he'; cases he'; exact h3.symm), ?_, ?_⟩, gr _⟩
  ·simp [Instr.mapUpdate, run_underlying ht, MapKept.run_getObj_map hb, L.check w false hkey, h1, hj, h3, L.stays w hkey, MapKept.run_setObj_map _ hb, Result.andThen, setBlock]
  ·rw [hlist, hput, List.map_set, List.map_set, hm]
  ·rw [hput]
   intro p hp
   rcases List.mem_or_eq_of_mem_set hp with hp | hp
   ·exact hks p hp
   ·subst hp; exact ⟨l, hkey⟩
end
end Go.Proofs.YtgidajjjpeboeaaGreatDoor
