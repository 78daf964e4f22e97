/-
  The texts that the claim wants, one behind the other: part 47.
-/
import Derived.Test.YtnpkejnaeemgjaaGreatDoorS46
import Derived.BigQuiet
set_option linter.unusedSimpArgs false
set_option linter.unusedVariables false
namespace Go.Proofs.YtnpkejnaeemgjaaGreatDoor
open Go.RowKit
def kAt (key : ByteArray) : List (ByteArray × V) → Nat → Int
 | [], _ => -1
 | p :: m, k => if p.1 = key then k else kAt key m (k + 1)
theorem kAt_cases (key : ByteArray) : ∀ (m : List (ByteArray × V)) (k : Nat), (kAt key m k = -1 ∧ ∀ p ∈ m, p.1 ≠ key) ∨ ∃ (i : Nat) (x : V), kAt key m k = ((k + i : Nat) : Int) ∧ m[i]? = some (key, x) ∧ ∀ p ∈ m.take i, p.1 ≠ key
 | [], _ => .inl ⟨rfl, fun p h => by cases h⟩
 | (y, x) :: m, k => by
  rw [kAt]
  by_cases h : y = key
  ·subst h
   exact .inr ⟨0, x, by simp, rfl, fun p hp => by cases hp⟩
  ·rw [if_neg h]
   rcases kAt_cases key m (k + 1) with ⟨h1, h2⟩ | ⟨i, z, h1, h2, h3⟩
   ·refine .inl ⟨h1, fun p hp => ?_⟩
    rcases List.mem_cons.1 hp with rfl | hp
    ·exact h
    ·exact h2 p hp
   ·refine .inr ⟨i + 1, z, by rw [h1]; congr 1; omega, by simpa using h2, fun p hp => ?_⟩
    rw [List.take_succ_cons] at hp
    rcases List.mem_cons.1 hp with rfl | hp
    ·exact h
    ·exact h3 p hp
theorem kAt_drop {key : ByteArray} {m : List (ByteArray × V)} {k : Nat} {p : ByteArray × V} (h : m[k]? = some p) : kAt key (m.drop k) k = if p.1 = key then (k : Int) else kAt key (m.drop (k + 1)) (k + 1) := by
 rw [drop_at h, kAt]
theorem drop1_a (y key : ByteArray) (x : V) : AC Tryz.prog 122 [.agg (.str y :: (vC (x))), .ro [.str key]] (.bool (decide (y = key))) := by
 refine kE Tryz.func122 a_tree_Drop_1_ok a_tree_Drop_1_cb fun E hE => ?_
 refine kW ?_
 refine AK.ret ⟨_, rfl, ?_⟩
 rfl
theorem indexP_a (m : List (ByteArray × V)) (key : ByteArray) (hl : m.length ≤ 2000000000000) : AC Tryz.prog 169 [.lst .any 7 (rowsM m), .fn 122 [.ro [.str key]]] (.int .i64 (kAt key m 0)) := by
 refine kE Tryz.func169 a_slices_IndexFunc_Pair_ok a_slices_IndexFunc_Pair_cb fun E hE => ?_
 refine kW ?_
 refine AK.loopI (fun k : Nat => (frOf [(0, .lst .any 7 (rowsM m)), (1, .fn 122 [.ro [.str key]]), (7, .int .i64 (rowsM m).length), (8, .int .i64 k)], ⟨boxOf [], fun _ => 0⟩)) (fun k => k ≤ m.length ∧ kAt key (m.drop k) k = kAt key m 0) (fun k => m.length - k) 0 ⟨by omega, rfl⟩ (Weak.intro ⟨kI, kI, kI, kI, trivial⟩ trivial rfl rfl) fun k ⟨hk, hr⟩ => ?_
 refine kW ?_
 refine kC (fun hb => ?_) fun hb => ?_
 ·have hlt : k < m.length := by simpa [rowsM_len] using hb
  obtain ⟨⟨y, x⟩, hg⟩ : ∃ x, m[k]? = some x := ⟨_, List.getElem?_eq_getElem hlt⟩
  have hp := drop1_a y key x
  rw [kAt_drop hg] at hr
  have hll := rowsM_len m
  refine kW ?_
  refine kP [.c (.str y :: (vC (x))), .v (.bool (decide (y = key)))] ?_ ?_
  ·((repeat' apply And.intro) <;> first | exact kD | (intro hgd; refine ⟨?_, kG⟩; (repeat' apply And.intro) <;> first | exact kD | skip) | skip)
   exact rowsM_at hg
  refine kC (fun hb => ?_) fun hb => ?_
  ·have hf : y = key := of_decide_eq_true hb
   rw [if_pos hf] at hr
   refine kW ?_
   refine AK.ret ⟨_, rfl, ?_⟩
   exact congrArg (AV.int _) hr
  ·have hf : ¬ y = key := of_decide_eq_false hb
   rw [if_neg hf] at hr
   refine kW ?_
   exact AK.lp ⟨k + 1, ⟨by omega, hr⟩, Weak.intro ⟨kI, kI, kI, kU, trivial⟩ trivial rfl rfl, by omega⟩
 ·have hlt : k = m.length := by have : m.length ≤ k := by simpa [rowsM_len] using hb
                                omega
  subst hlt
  refine AK.exit rfl ?_
  refine kW ?_
  refine AK.ret ⟨_, rfl, ?_⟩
  rw [← hr, List.drop_length]
  rfl
set_option maxRecDepth 100000 in
theorem drop1_any (y key : ByteArray) (c1 c2 c3 c4 c5 c6 : Value) (kb : Nat) (w : World) (hk : w.cell? ⟨kb, 0, none⟩ = some (.string key)) :
  Calls Tryz.prog 122 #[.agg #[.string y, c1, c2, c3, c4, c5, c6], .pointer (some ⟨kb, 0, none⟩)] w fun e w' => e = .returned (.bool (decide (y = key))) ∧ Below w.heap.size w w' := by
 have hkb : kb < w.heap.size := World.block_lt_of_cell? w _ hk
 have hk2 : (w.alloc (.cells #[.string y, c1, c2, c3, c4, c5, c6] 58)).cell? ⟨kb, 0, none⟩ = some (.string key) := by
  rw [World.cell?_alloc_lt w _ _ hkb]; exact hk
 go_enter Tryz.func122, Tryz.ntmps122
 go_wp2
 go_ret
 have e : (y.toList == key.toList) = decide (y = key) := by
  by_cases h : y = key
  ·subst h; simp
  ·rw [decide_eq_false h, Lib.toList_data key]; exact ne_list h
 refine ⟨?_, (Below.refl _ _).alloc (Nat.le_refl _) _⟩
 show Ending.returned (.bool (y.toList == key.toList)) = _
 rw [e]
theorem indexP_any (m : List (ByteArray × V)) (key : ByteArray) (hsz : sizeM m ≤ 100000000) {σ : Sg} {w : World} {g cap kb : Nat} (hh : Holds σ w) (hg : GW w) (hrow : FRowW σ w g cap 7 (rowsM m)) (hk : w.cell? ⟨kb, 0, none⟩ = some (.string key)) (hne : kb ≠ g) :
  Calls Tryz.prog 169 #[.slice (some ⟨g, 0, none⟩) m.length cap, .func (.func 122) #[] #[.pointer (some ⟨kb, 0, none⟩)]] w fun e w' => e = .returned (.int .i64 (kAt key m 0)) ∧ Below w.heap.size w w' := by
 have hlm := len_le_sizeM m
 obtain ⟨ty, cur, h1, h2, h3, h4, h5, h6, h7⟩ := hrow
 obtain ⟨σ1, hσ1⟩ : ∃ σ1 : Sg, σ1 = fun b o => if b = g then cur[o]? else if b = kb ∧ o = 0 then some (.string key) else σ b o := ⟨_, rfl⟩
 have hh1 : Holds σ1 w := fun b o v hv => by
  rw [hσ1] at hv
  simp only at hv
  split at hv
  ·rename_i e; subst e
   rw [cell_of_row w b o cur ty (0, 0) h1]; exact hv
  ·split at hv
   ·rename_i e
    obtain ⟨rfl, rfl⟩ := e
    cases hv
    exact hk
   ·exact hh _ _ _ hv
 have hle : σ.le σ1 := fun b o v hv => by
  rw [hσ1]
  simp only
  split
  ·rename_i e; subst e; rw [h7] at hv; cases hv
  ·split
   ·rename_i e
    obtain ⟨rfl, rfl⟩ := e
    have := hh _ _ _ hv
    rw [hk] at this
    exact this
   ·exact hv
 have hfl := flatten_len (esz := 7) (rows := rowsM m) (fun c hc => ((rowsM_ok m).2 c hc).1)
 rw [rowsM_len] at h3 h5 hfl
 have hcur : ∀ (i j : Nat) (c : List AV) (a : AV), (rowsM m)[i]? = some c → c[j]? = some a → ∃ u, cur[i * 7 + j]? = some u ∧ Rel1 σ u a := fun i j c a hc ha => by
  have hi : i < m.length := by have := (List.getElem?_eq_some_iff.1 hc).1; rw [rowsM_len] at this; exact this
  have hcl := ((rowsM_ok m).2 c (List.mem_of_getElem? hc)).1
  have hj : j < 7 := by have := (List.getElem?_eq_some_iff.1 ha).1; omega
  have hfa : (rowsM m).flatten[i * 7 + j]? = some a := by
   have h8 := flatten_drop (esz := 7) (rows := rowsM m) i (fun c hc => ((rowsM_ok m).2 c hc).1)
   have h9 : (rowsM m).drop i = c :: (rowsM m).drop (i + 1) := drop_at hc
   rw [← List.getElem?_drop, ← h8, h9, List.flatten_cons, List.getElem?_append_left (by omega)]
   exact ha
  obtain ⟨u, hu, hr⟩ := h5.at_ hfa
  refine ⟨u, ?_, hr⟩
  rw [List.getElem?_take] at hu
  split at hu
  ·simpa using hu
  ·cases hu
 have hI := (indexP_a m key (by omega)).run σ1 w [.slice (some ⟨g, 0, none⟩) m.length cap, .func (.func 122) #[] #[.pointer (some ⟨kb, 0, none⟩)]] hh1 ?_ hg
 ·refine hI.mono ?_
  rintro e w' ⟨σ', v, rfl, _, _, hb, hr⟩
  have hr : Rel1 σ' v (.int .i64 (kAt key m 0)) := hr
  cases hr
  exact ⟨rfl, hb⟩
 ·refine ⟨rfl, fun j u a hu ha => ?_⟩
  rcases j with _ | _ | j <;> simp at hu ha
  ·subst hu ha
   refine Rel1.lst .any 7 (rowsM m) _ _ cap g 0 (fun i j => (cur[i * 7 + j]?).getD undef) (by rw [rowsM_len]) h3 (fun _ => rfl) (fun i c hc => ((rowsM_ok m).2 c (List.mem_of_getElem? hc)).1) (fun i j hi hj => ?_) (fun i j c a hc ha => ?_) trivial
   ·rw [hσ1]
    simp only [if_pos, Nat.zero_add]
    have : i * 7 + j < cur.size := by
     have : (i + 1) * 7 ≤ cap * 7 := Nat.mul_le_mul_right 7 (by omega)
     omega
    rw [Array.getElem?_eq_getElem this]
    rfl
   ·obtain ⟨u, hu, hr⟩ := hcur i j c a hc ha
    rw [hu]
    exact hr.mono hle
  ·subst hu ha
   refine Rel1.fn _ _ [_] rfl (fun _ => .pointer (some ⟨kb, 0, none⟩)) (fun j v hv => ?_) (fun j a ha => ?_)
   ·rcases j with _ | j <;> simp at hv
    exact hv.symm
   ·rcases j with _ | j <;> simp at ha
    subst ha
    refine Rel1.ro _ kb 0 (fun _ => .string key) (fun j hj => ?_) (fun j a ha => ?_)
    ·have hj0 : j = 0 := by simp at hj; exact hj
     subst hj0
     rw [hσ1]
     simp [hne]
    ·rcases j with _ | j <;> simp at ha
     subst ha
     exact .str key
end Go.Proofs.YtnpkejnaeemgjaaGreatDoor
/-
 slices.DeleteFunc at pairs of a map, by key, walked.
-/
namespace Go.Proofs.YtnpkejnaeemgjaaGreatDoor
open Go.RowKit
section
variable {P : Program}
theorem run_storeVar_at (w : World) (g o : Nat) (t ty : TypeId) (cs vs : Array Value) (hg : w.heap[g]? = some (.cells cs t (0, 0))) (hs : o + vs.size ≤ cs.size) (h1 : ∀ u ∈ vs.toList, u.oneCell' = true)
  (hi : (P.info? ty).map (·.size) = some vs.size) : (storeVar ty ⟨g, o, none⟩ (.agg vs)).run P w = .ok () (w.setRow g (cs.toList.take o ++ vs.toList ++ cs.toList.drop (o + vs.size)).toArray) := by
 have h := run_storeCells_at P g o t vs.toList 0 cs w hg (by simpa using hs) h1
 rw [Nat.add_zero] at h
 cases hq : P.info? ty with
 | none => simp [hq] at hi
 | some i =>
  have hz : i.size = vs.size := by simpa [hq] using hi
  have hvc : (Value.agg vs).cells = vs := rfl
  simp only [Array.length_toList] at h
  simp [storeVar, sizeOf, typeInfo, hq, hz, hvc, h]
theorem wpList_store_at {ops : Array Oper} {rest : List Oper} {tmps : Array Value} {df : List Deferred} {w : World} {Q : Exit → Act → World → Prop} {d : Option Tmp} {ty0 : TypeId} {ps : String} {af : Array Edge}
  (p q : Tmp) (ty : TypeId) (g o : Nat) (t : TypeId) (cs vs : Array Value) (hp : tmps.getD p undef = .pointer (some ⟨g, o, none⟩)) (hq : tmps.getD q undef = .agg vs) (hg : w.heap[g]? = some (.cells cs t (0, 0))) (hs : o + vs.size ≤ cs.size) (h1 : ∀ u ∈ vs.toList, u.oneCell' = true)
  (hi : (P.info? ty).map (·.size) = some vs.size)
  (h : wpList P ops Q rest (({ tmps := tmps, defers := df } : Act).put d undef) (w.setRow g (cs.toList.take o ++ vs.toList ++ cs.toList.drop (o + vs.size)).toArray)) :
  wpList P ops Q ({ dst := d, op := .store ty (.tmp p) (.tmp q), type := ty0, pos := ps, after := af, guard := none } :: rest) { tmps := tmps, defers := df } w := by
 refine wpList_plain rfl fun K hK => ?_
 have hrun := run_storeVar_at (P := P) w g o t ty cs vs hg hs h1 hi
 have e1 : ({ tmps := tmps, defers := df } : Act).eval (.tmp p) = .pointer (some ⟨g, o, none⟩) := hp
 have e2 : ({ tmps := tmps, defers := df } : Act).eval (.tmp q) = .agg vs := hq
 unfold Oper.wp execOp
 simp only [e1, e2, Instr.storeAt, Instr.sureAddr, Sem.run_bind, Sem.run_pure, Result.andThen_ok, hrun]
 exact hK _ _ h
end
theorem run_clear_one (w : World) (g o cap : Nat) (ty t : TypeId) (cs : Array Value) (hg : w.heap[g]? = some (.cells cs t (0, 0))) (hs : o + 7 ≤ cs.size) : (Builtin.clear_ #[23] ty #[.slice (some ⟨g, o, none⟩) 1 cap]).run Tryz.prog w = .ok (.tuple #[]) (w.setRow g (cs.toList.take o ++ (Builtin.zeroCells zeroP.cells 1).toList ++ cs.toList.drop (o + 7)).toArray) := by
 have hz : (Builtin.zeroCells zeroP.cells 1).toList.length = 7 := by rw [Array.length_toList, size_zeroCells]; rfl
 have h := run_storeCells_at Tryz.prog g o t (Builtin.zeroCells zeroP.cells 1).toList 0 cs w hg (by rw [hz]; simpa using hs) (zeros_one (by simp [zeroP, Value.cells, Value.oneCell']) _)
 rw [hz, Nat.add_zero] at h
 have hzv : ∀ w : World, (zeroValue 58).run Tryz.prog w = .ok zeroP w := fun w => by rw [Tryz.zeroValue58]; rfl
 simp only [Builtin.clear_, run_underlying Tryz.underlying23]
 simp [run_underlying Tryz.underlying23, hzv, h]
theorem fdrop_at {key : ByteArray} {x : V} {m : List (ByteArray × V)} {i : Nat} (hr : Rises m) (hi : m[i]? = some (key, x)) : fdrop key m = m.take i ++ m.drop (i + 1) := by
 have e : m = m.take i ++ (key, x) :: m.drop (i + 1) := by
  rw [← drop_at hi, List.take_append_drop]
 have h1 : ∀ p ∈ m.take i, p.1 ≠ key := take_ne hr hi
 have h2 : ∀ p ∈ m.drop (i + 1), p.1 ≠ key := by
  have hr2 := hr
  rw [e] at hr2
  have := (List.pairwise_append.1 hr2).2.1
  exact fun p hp h => klt_ne ((List.pairwise_cons.1 this).1 p hp) h.symm
 have f1 := fdrop_none h1
 have f2 := fdrop_none h2
 calc fdrop key m = fdrop key (m.take i ++ (key, x) :: m.drop (i + 1)) := by rw [← e]
  _ = m.take i ++ m.drop (i + 1) := by
   rw [fdrop, List.filter_append, List.filter_cons_of_neg (by simp)]
   rw [fdrop] at f1 f2
   rw [f1, f2]
def DelAt (σ : Sg) (m fin : List (ByteArray × V)) (p g cap : Nat) (ty : TypeId) (w : World) : Prop :=
 ∃ (cur : Array Value) (L : List (ByteArray × V)), w.heap[g]? = some (.cells cur ty (0, 0)) ∧ cur.size = cap * 7 ∧ (∀ u ∈ cur.toList, u.oneCell' = true) ∧ L.length = m.length ∧ RelL σ (cur.toList.take (m.length * 7)) (rowsM L).flatten ∧ L.take p = fin.take p ∧ L.drop p = m.drop p
theorem pair_cells {σ : Sg} {cur : List Value} {L : List (ByteArray × V)} {n q : Nat} {y : ByteArray} {x : V} (hn : L.length = n) (h : RelL σ (cur.take (n * 7)) (rowsM L).flatten) (hq : L[q]? = some (y, x)) :
  ∃ (A1 A2 : Option Addr) (k1 k2 : Nat), (cur.drop (q * 7)).take 7 = [.string y, .int .i64 x.kind, .bool x.b, .int .i64 x.n, .string x.s, .slice A1 x.l.length k1, .slice A2 x.m.length k2] ∧ RelL σ [.string y, .int .i64 x.kind, .bool x.b, .int .i64 x.n, .string x.s, .slice A1 x.l.length k1, .slice A2 x.m.length k2] (.str y :: (vC (x))) := by
 have hql : q < n := by rw [← hn]; exact (List.getElem?_eq_some_iff.1 hq).1
 have h8 := flatten_drop (esz := 7) (rows := rowsM L) q (fun c hc => ((rowsM_ok L).2 c hc).1)
 have h9 : (rowsM L).drop q = (.str y :: (vC (x))) :: (rowsM L).drop (q + 1) := drop_at (rowsM_at hq)
 have h10 := (h.drop (q * 7)).take 7
 have e1 : ((rowsM L).flatten.drop (q * 7)).take 7 = .str y :: (vC (x)) := by
  rw [← h8, h9, List.flatten_cons]
  rfl
 have e2 : ((cur.take (n * 7)).drop (q * 7)).take 7 = (cur.drop (q * 7)).take 7 := by
  rw [List.drop_take, List.take_take]
  congr 1
  omega
 rw [e1, e2] at h10
 generalize (cur.drop (q * 7)).take 7 = us at *
 have hl := h10.1
 simp only [List.length_cons, List.length_nil] at hl
 obtain ⟨x0, x1, x2, x3, x4, x5, x6, rfl⟩ : ∃ a b c d e f g, us = [a, b, c, d, e, f, g] := by
  rcases us with _ | ⟨a, _ | ⟨b, _ | ⟨c, _ | ⟨d, _ | ⟨e, _ | ⟨f, _ | ⟨g, _ | ⟨k, l⟩⟩⟩⟩⟩⟩⟩⟩ <;> simp at hl
  exact ⟨a, b, c, d, e, f, g, rfl⟩
 have r0 := h10.2 0 x0 (.str y) rfl rfl
 have r1 := h10.2 1 x1 (.int .i64 x.kind) rfl rfl
 have r2 := h10.2 2 x2 (.bool x.b) rfl rfl
 have r3 := h10.2 3 x3 (.int .i64 x.n) rfl rfl
 have r4 := h10.2 4 x4 (.str x.s) rfl rfl
 have r5 := h10.2 5 x5 (.lst .any 6 (rowsV x.l)) rfl rfl
 have r6 := h10.2 6 x6 (.lst .any 7 (rowsM x.m)) rfl rfl
 cases r0; cases r1; cases r2; cases r3; cases r4
 obtain ⟨A1, k1, b1, o1, n1, rfl, _⟩ := lst_cells r5
 obtain ⟨A2, k2, b2, o2, n2, rfl, _⟩ := lst_cells r6
 rw [rowsV_len, rowsM_len] at *
 exact ⟨A1, A2, k1, k2, rfl, h10⟩
theorem cells_of_take7 {w : World} {g q : Nat} {cur : Array Value} {ty : TypeId} (h : w.heap[g]? = some (.cells cur ty (0, 0))) {vs : List Value} (hv : (cur.toList.drop (q * 7)).take 7 = vs) (j : Nat) (hj : j < 7) : w.cell? ⟨g, q * 7 + j, none⟩ = vs[j]? := by
 rw [cell_of_row w g (q * 7 + j) cur ty (0, 0) h, ← hv, List.getElem?_take, if_pos hj, List.getElem?_drop]
 simp
theorem DelAt.step {σ : Sg} {m fin : List (ByteArray × V)} {p g cap : Nat} {ty : TypeId} {w : World} {cur : Array Value} {L : List (ByteArray × V)} {y : ByteArray} {x : V} {vs : List Value} (hg : w.heap[g]? = some (.cells cur ty (0, 0))) (h2 : cur.size = cap * 7) (h6 : ∀ u ∈ cur.toList, u.oneCell' = true) (hL : L.length = m.length) (h5 : RelL σ (cur.toList.take (m.length * 7)) (rowsM L).flatten) (ht : L.take p = fin.take p) (hd : L.drop p = m.drop p)
  (hp : p < m.length) (hcap : m.length ≤ cap) (hf : fin[p]? = some (y, x)) (hv : RelL σ vs (.str y :: (vC (x)))) (hvl : vs.length = 7) : DelAt σ m fin (p + 1) g cap ty (w.setRow g (cur.toList.take (p * 7) ++ vs ++ cur.toList.drop (p * 7 + 7)).toArray) := by
 have hpc : p * 7 + 7 ≤ cap * 7 := by
  have : (p + 1) * 7 ≤ cap * 7 := Nat.mul_le_mul_right 7 (by omega)
  omega
 have hcl : cur.toList.length = cap * 7 := by simpa using h2
 have hok := fun c hc => ((rowsM_ok L).2 c hc).1
 have hset : (rowsM (L.set p (y, x))).flatten = (rowsM L).flatten.take (p * 7) ++ (.str y :: (vC (x))) ++ (rowsM L).flatten.drop ((p + 1) * 7) := by
  rw [rowsM_set, cellsV_eq, List.set_eq_take_append_cons_drop, if_pos (by rw [rowsM_len]; omega), List.flatten_append, List.flatten_cons, ← flatten_take p hok, ← flatten_drop (p + 1) hok, List.append_assoc]
 refine ⟨_, L.set p (y, x), setRow_heap w g cur _ ty (0, 0) hg, ?_, fun u hu => ?_, by simp [hL], ?_, ?_, ?_⟩
 ·simp [hcl, hvl]; omega
 ·simp only [List.mem_append] at hu
  rcases hu with (hu | hu) | hu
  ·exact h6 u (List.mem_of_mem_take hu)
  ·exact hv.one u hu
  ·exact h6 u (List.mem_of_mem_drop hu)
 ·rw [hset]
  have r1 := h5.take (p * 7)
  have r2 := h5.drop ((p + 1) * 7)
  have e1 : (cur.toList.take (m.length * 7)).take (p * 7) = cur.toList.take (p * 7) := by rw [List.take_take]; congr 1; omega
  rw [e1] at r1
  have := (r1.append hv).append r2
  have e2 : (cur.toList.take (p * 7) ++ vs ++ cur.toList.drop (p * 7 + 7)).toArray.toList.take (m.length * 7) = cur.toList.take (p * 7) ++ vs ++ (cur.toList.take (m.length * 7)).drop ((p + 1) * 7) := by
   simp only [List.toList_toArray]
   rw [List.take_append, List.take_of_length_le (by simp [hvl]; omega)]
   congr 1
   rw [List.drop_take]
   congr 1
   ·simp [hvl, hcl]; omega
   ·congr 1; omega
  rw [e2]
  exact this
 ·rw [List.take_add_one, List.take_add_one, List.getElem?_set_self (by omega), hf]
  congr 1
  rw [List.take_set_of_le (Nat.le_refl _), ht]
 ·rw [List.drop_set_of_lt (by omega)]
  have := congrArg (List.drop 1) hd
  rw [List.drop_drop, List.drop_drop] at this
  exact this
theorem BelowBut.below {g : Nat} {w w1 w2 : World} (h : BelowBut g w w1) (h2 : Below w1.heap.size w1 w2) : BelowBut g w w2 :=
 ⟨h2.os.trans h.os, h2.tape.trans h.tape, h2.output.trans h.output, Nat.le_trans h.size h2.size, fun k hk hne => (h2.block k (Nat.lt_of_lt_of_le hk h.size)).trans (h.block k hk hne)⟩
set_option maxHeartbeats 4000000 in
set_option maxRecDepth 100000 in
theorem delete_any (m : List (ByteArray × V)) (key : ByteArray) (hri : Rises m) (hsz : sizeM m ≤ 100000000) {σ : Sg} {w : World} {g cap kb : Nat} (hh : Holds σ w) (hg : GW w) (hrow : FRowW σ w g cap 7 (rowsM m)) (hk : w.cell? ⟨kb, 0, none⟩ = some (.string key)) (hne : kb ≠ g) :
  Calls Tryz.prog 121 #[.slice (some ⟨g, 0, none⟩) m.length cap, .func (.func 122) #[] #[.pointer (some ⟨kb, 0, none⟩)]] w fun e w' =>
   e = .returned (.slice (some ⟨g, 0, none⟩) (fdrop key m).length cap) ∧ BelowBut g w w' ∧ ∃ ty cur, w'.heap[g]? = some (.cells cur ty (0, 0)) ∧ cur.size = cap * 7 ∧ (fdrop key m).length ≤ cap ∧ RelL σ (cur.toList.take ((fdrop key m).length * 7)) (rowsM (fdrop key m)).flatten := by
 have hI := indexP_any m key hsz hh hg hrow hk hne
 have hlm := len_le_sizeM m
 obtain ⟨ty, cur, h1, h2, h3, h4, h5, h6, h7⟩ := hrow
 rw [rowsM_len] at h3 h5
 rcases kAt_cases key m 0 with ⟨hka, hno⟩ | ⟨i, x, hka, hix, hno⟩
 ·rw [hka] at hI
  have hfd : fdrop key m = m := fdrop_none hno
  rw [hfd]
  go_enter Tryz.func121, Tryz.ntmps121
  go_wp2_with fail
  refine hI.mono ?_
  rintro e w1 ⟨rfl, hb1⟩
  go_wp2
  go_ret
  exact ⟨rfl, ⟨hb1.os, hb1.tape, hb1.output, hb1.size, fun k hk _ => hb1.block k hk⟩, ty, cur, (hb1.block g (Array.getElem?_eq_some_iff.1 h1).1).trans h1, h2, h3, h5⟩
 ·rw [Nat.zero_add] at hka
  rw [hka] at hI
  have hil : i < m.length := (List.getElem?_eq_some_iff.1 hix).1
  have hfd := fdrop_at hri hix
  go_enter Tryz.func121, Tryz.ntmps121
  go_wp2_with fail
  refine hI.mono ?_
  rintro e w1 ⟨rfl, hb1⟩
  have hi1 : ((i : Int) == -1) = false := beq_eq_false_iff_ne.2 (by omega)
  have hbb : BelowBut g w w1 := ⟨hb1.os, hb1.tape, hb1.output, hb1.size, fun k hk _ => hb1.block k hk⟩
  have hD0 : DelAt σ m (m.take i ++ m.drop (i + 1)) i g cap ty w1 := ⟨cur, m, (hb1.block g (Array.getElem?_eq_some_iff.1 h1).1).trans h1, h2, h6, rfl, h5, by rw [List.take_append_of_le_length (by rw [List.length_take]; omega), List.take_take, Nat.min_self], rfl⟩
  have hfl : (m.take i ++ m.drop (i + 1)).length = m.length - 1 := by rw [List.length_append, List.length_take, List.length_drop]; omega
  have hkb := World.block_lt_of_cell? w _ hk
  have HD0 := Lib.hid hD0
  have HBB := Lib.hid hbb
  clear hI hD0 hbb hb1 h1 h2 h5 h6 h7 h4 hh hg
  go_wp2_with fail
  go_loopw [5, 6] (fun pv jv wr => ∃ p q : Nat, q = p + 1 ∧ pv = .int .i64 p ∧ jv = .int .i64 q ∧ i ≤ p ∧ q ≤ m.length ∧ Hid (BelowBut g w wr) ∧ Hid (DelAt σ m (m.take i ++ m.drop (i + 1)) p g cap ty wr)) (fun _ jv _ => m.length - (intOf jv).toNat)
  case atStart => exact ⟨i, i + 1, rfl, rfl, by go_num, Nat.le_refl _, by omega, HBB, HD0⟩
  case round =>
   obtain ⟨p, q, hpq, rfl, rfl, hip, hqm, hB, hDl⟩ := hrel
   by_cases hlt : q < m.length
   ·have hDl' := hDl.out
    obtain ⟨cu, L, d1, d2, d3, d4, d5, d6, d7⟩ := hDl'
    obtain ⟨⟨y, x⟩, hq⟩ : ∃ x, m[q]? = some x := ⟨_, List.getElem?_eq_getElem hlt⟩
    have hLq : L[q]? = some (y, x) := by
     have := congrArg (fun l => l[1]?) d7
     simp only [List.getElem?_drop] at this
     rw [← hpq] at this
     rw [this]; exact hq
    obtain ⟨A1, A2, k1, k2, hcs, hcr⟩ := pair_cells d4 d5 hLq
    have hyk : y ≠ key := fun e => by
     obtain ⟨q1, e1⟩ := List.getElem?_eq_some_iff.1 hix
     obtain ⟨q2, e2⟩ := List.getElem?_eq_some_iff.1 hq
     have := List.pairwise_iff_getElem.1 hri i q q1 q2 (by omega)
     rw [e1, e2] at this
     exact klt_ne this e.symm
    have f0 := cells_of_take7 d1 hcs 0 (by omega)
    have f1 := cells_of_take7 d1 hcs 1 (by omega)
    have f2 := cells_of_take7 d1 hcs 2 (by omega)
    have f3 := cells_of_take7 d1 hcs 3 (by omega)
    have f4 := cells_of_take7 d1 hcs 4 (by omega)
    have f5 := cells_of_take7 d1 hcs 5 (by omega)
    have f6 := cells_of_take7 d1 hcs 6 (by omega)
    simp only [List.getElem?_cons_zero, List.getElem?_cons_succ, Nat.add_zero] at f0 f1 f2 f3 f4 f5 f6
    have hgl := (Array.getElem?_eq_some_iff.1 d1).1
    have hkw : wr.cell? ⟨kb, 0, none⟩ = some (.string key) := by
     have := hB.out.block kb hkb hne
     rw [← hk]
     unfold World.cell?
     rw [this]
    have hfin : (m.take i ++ m.drop (i + 1))[p]? = some (y, x) := by
     rw [List.getElem?_append_right (by rw [List.length_take]; omega), List.length_take, List.getElem?_drop, show i + 1 + (p - min i m.length) = q by omega]
     exact hq
    have hst : ∀ w2 : World, w2.heap[g]? = wr.heap[g]? → DelAt σ m (m.take i ++ m.drop (i + 1)) (p + 1) g cap ty (w2.setRow g (cu.toList.take (p * 7) ++ ([Value.string y, .int .i64 x.kind, .bool x.b, .int .i64 x.n, .string x.s, .slice A1 x.l.length k1, .slice A2 x.m.length k2] : List Value) ++ cu.toList.drop (p * 7 + 7)).toArray) := fun w2 hw2 =>
     DelAt.step (hw2.trans d1) d2 d3 d4 d5 d6 d7 (by omega) h3 hfin hcr rfl
    have hroom : p * 7 + 7 ≤ cu.size := by
     have : (p + 1) * 7 ≤ cap * 7 := Nat.mul_le_mul_right 7 (by omega)
     omega
    have hone := hcr.one
    have HST := Lib.hid hst
    have HD1 := Lib.hid d1
    have HON := Lib.hid hone
    have HRM := Lib.hid hroom
    have HYK := Lib.hid hyk
    have HPQ := Lib.hid hpq
    have hpl : p < m.length := by omega
    clear hpq hDl hcr hLq hcs d1 d2 d3 d4 d5 d6 d7 hq hst hone hroom hyk hfin
    go_wp2_with fail
    have hkw2 : (wr.alloc (.cells #[.string y, .int .i64 x.kind, .bool x.b, .int .i64 x.n, .string x.s, .slice A1 x.l.length k1, .slice A2 x.m.length k2] 58)).cell? ⟨kb, 0, none⟩ = some (.string key) := by
     rw [World.cell?_alloc_lt wr _ _ (World.block_lt_of_cell? wr _ hkw)]; exact hkw
    refine (drop1_any y key _ _ _ _ _ _ kb _ hkw2).mono ?_
    rintro e w2 ⟨rfl, hb2⟩
    have hbk : Blk w2 wr.heap.size 58 #[.string y, .int .i64 x.kind, .bool x.b, .int .i64 x.n, .string x.s, .slice A1 x.l.length k1, .slice A2 x.m.length k2] := (Blk.new wr 58 #[.string y, .int .i64 x.kind, .bool x.b, .int .i64 x.n, .string x.s, .slice A1 x.l.length k1, .slice A2 x.m.length k2] rfl).below hb2 (by simp)
    have hw2g : w2.heap[g]? = wr.heap[g]? := (hb2.block g (by simp; omega)).trans (Below.heap_alloc wr _ g hgl)
    have hz2 : wr.heap.size < w2.heap.size := hbk.lt
    have hBB2 : BelowBut g w w2 := hB.out.below (((Below.refl _ _).alloc (Nat.le_refl _) _).trans (hb2.mono (by simp)))
    have b0 : w2.cell? ⟨wr.heap.size, 0, none⟩ = some (.string y) := hbk.cell 0
    have b1 : w2.cell? ⟨wr.heap.size, 1, none⟩ = some (.int .i64 x.kind) := hbk.cell 1
    have b2 : w2.cell? ⟨wr.heap.size, 2, none⟩ = some (.bool x.b) := hbk.cell 2
    have b3 : w2.cell? ⟨wr.heap.size, 3, none⟩ = some (.int .i64 x.n) := hbk.cell 3
    have b4 : w2.cell? ⟨wr.heap.size, 4, none⟩ = some (.string x.s) := hbk.cell 4
    have b5 : w2.cell? ⟨wr.heap.size, 5, none⟩ = some (.slice A1 x.l.length k1) := hbk.cell 5
    have b6 : w2.cell? ⟨wr.heap.size, 6, none⟩ = some (.slice A2 x.m.length k2) := hbk.cell 6
    have HG2 := Lib.hid (hw2g.trans HD1.out)
    have HST2 := Lib.hid (HST.out w2 hw2g)
    have HBB2 := Lib.hid hBB2
    have hnk : decide (y = key) = false := decide_eq_false HYK.out
    rw [hnk]
    have hz3 := World.block_lt_of_cell? wr _ hkw
    clear hkw hkw2 hb2 hbk hw2g hBB2 f0 f1 f2 f3 f4 f5 f6 hnk
    go_wp2_with (refine wpList_store_at 33 32 58 g (p * 7) ty cu #[.string y, .int .i64 x.kind, .bool x.b, .int .i64 x.n, .string x.s, .slice A1 x.l.length k1, .slice A2 x.m.length k2] rfl rfl HG2.out HRM.out HON.out (by kernel_rfl) ?_)
    go_wp2
    go_roundw
    case rel => exact ⟨p + 1, q + 1, by rw [HPQ.out], by go_num, by go_num, by omega, by omega, Lib.hid ⟨HBB2.out.os, HBB2.out.tape, HBB2.out.output, by rw [setRow_size]; exact HBB2.out.size, fun k hk hkg => (setRow_other _ _ _ _ hkg).trans (HBB2.out.block k hk hkg)⟩, by have h := HST2.out; simp only [List.append_assoc, List.cons_append, List.nil_append] at h; exact Lib.hid h⟩
    case measure => simp [intOf]; omega
   ·have hqe : q = m.length := by omega
    have hpe : p = m.length - 1 := by omega
    obtain ⟨cu, L, d1, d2, d3, d4, d5, d6, d7⟩ := hDl.out
    have hn : m.length = p + 1 := by omega
    have hroom : p * 7 + 7 ≤ cu.size := by
     have : (p + 1) * 7 ≤ cap * 7 := Nat.mul_le_mul_right 7 (by omega)
     omega
    have hzl : (Builtin.zeroCells zeroP.cells 1).toList.length = 7 := by rw [Array.length_toList, size_zeroCells]; rfl
    have hfe : fdrop key m = L.take p := by
     rw [hfd, d6]
     exact (List.take_of_length_le (by omega)).symm
    have hgl := (Array.getElem?_eq_some_iff.1 d1).1
    have hcl : cu.toList.length = cap * 7 := by simpa using d2
    have hfin : BelowBut g w (wr.setRow g (cu.toList.take (p * 7) ++ (Builtin.zeroCells zeroP.cells 1).toList ++ cu.toList.drop (p * 7 + 7)).toArray) ∧ ∃ ty cur, (wr.setRow g (cu.toList.take (p * 7) ++ (Builtin.zeroCells zeroP.cells 1).toList ++ cu.toList.drop (p * 7 + 7)).toArray).heap[g]? = some (.cells cur ty (0, 0)) ∧ cur.size = cap * 7 ∧ (fdrop key m).length ≤ cap ∧ RelL σ (cur.toList.take ((fdrop key m).length * 7)) (rowsM (fdrop key m)).flatten := by
     refine ⟨⟨hB.out.os, hB.out.tape, hB.out.output, by rw [setRow_size]; exact hB.out.size, fun k hk hkg => (setRow_other _ _ _ _ hkg).trans (hB.out.block k hk hkg)⟩, ty, _, setRow_heap wr g cu _ ty (0, 0) d1, ?_, ?_, ?_⟩
     ·simp only [List.size_toArray, List.length_append, List.length_take, List.length_drop, hzl, hcl]
      omega
     ·rw [hfe, List.length_take]; omega
     ·have hpl : (L.take p).length = p := by rw [List.length_take]; omega
      rw [hfe, hpl]
      have r1 := d5.take (p * 7)
      rw [List.take_take, ← flatten_take p (fun c hc => ((rowsM_ok L).2 c hc).1), ← rowsM_take] at r1
      have e1 : (cu.toList.take (p * 7) ++ (Builtin.zeroCells zeroP.cells 1).toList ++ cu.toList.drop (p * 7 + 7)).toArray.toList.take (p * 7) = cu.toList.take (min (p * 7) (m.length * 7)) := by
       rw [List.toList_toArray, List.append_assoc, List.take_append_of_le_length (by rw [List.length_take]; omega), List.take_take]
       congr 1
       omega
      rw [e1]
      exact r1
    have hlen : (fdrop key m).length = p := by rw [hfe, List.length_take]; omega
    have hpc : p ≤ cap := by omega
    have hclr := fun ty cap' => run_clear_one wr g (p * 7) cap' ty _ cu d1 hroom
    generalize wr.setRow g (cu.toList.take (p * 7) ++ (Builtin.zeroCells zeroP.cells 1).toList ++ cu.toList.drop (p * 7 + 7)).toArray = W' at hfin hclr
    have HF := Lib.hid hfin
    have HL := Lib.hid hlen
    clear hfin hlen hfe d1 d2 d3 d4 d5 d6 d7 hB hDl hqm hcl hroom hzl hqe hpe hlt hfl
    subst hpq
    go_wp2_with (at_builtin; refine wpList_clear_run _ rfl _ _ rfl _ rfl (hclr _ _) ?_)
    go_ret
    exact ⟨by rw [HL.out]; rfl, HF.out.1, HF.out.2⟩
end Go.Proofs.YtnpkejnaeemgjaaGreatDoor
