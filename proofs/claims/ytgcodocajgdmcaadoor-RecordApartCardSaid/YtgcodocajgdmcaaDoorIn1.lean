/-
  slices.Insert at pairs, of one pair: it takes the row over.
-/
import Derived.Test.YtgcodocajgdmcaaDoorCl1
import Derived.Shelf.RegionOpenPlain
import Derived.WalkKit
import Derived.Lib.Walk
import Derived.Lib.SliceRun
import Derived.Lib.Overlaps
import Derived.Lib.AppendZerosOnto
import Derived.Laws.Externs
import Derived.Laws.IdiomCopy
import Derived.Laws.NewBlocks
namespace Go.Proofs.YtgcodocajgdmcaaDoor
set_option linter.unusedSimpArgs false
set_option linter.unusedVariables false
open Go.RowKit

section
variable {P : Program}
theorem run_copy_row (w : World) (t t2 ty e : TypeId) (inf : TypeInfo) (ht : P.underlying t = some (.slice e)) (hi : P.info? e = some inf) (g o dLen dCap : Nat) (e' : TypeId) (cur : Array Value) (hg : w.heap[g]? = some (.cells cur e' (0, 0))) (a : Addr) (sLen sCap n : Nat) (hn : n = Nat.min sLen dLen) (cs : List Value) (hl : cs.length = n * inf.size)
    (hsrc : ∀ (j : Nat) u, cs[j]? = some u → w.cell? (a.add j) = some u) (h1 : ∀ u ∈ cs, u.oneCell' = true) (hfit : o + cs.length ≤ cur.size) :
    (Builtin.copy_ #[t, t2] ty #[.slice (some ⟨g, o, none⟩) dLen dCap, .slice (some a) sLen sCap]).run P w = .ok (goInt n) (w.setRow g (cur.toList.take o ++ cs ++ cur.toList.drop (o + cs.length)).toArray) := by
  have hf := run_firstCells_some (P := P) w inf.size n a sLen sCap cs hl hsrc
  have hst := run_storeCells_at P g o e' cs 0 cur w hg (by simpa using hfit) h1
  simp only [Nat.add_zero] at hst
  subst hn
  simp [Builtin.copy_, run_underlying ht, sizeOf, typeInfo, hi, Builtin.lenOf, hf, hst]
theorem wp_copy_runI (w : World) {o : Oper} {a : Act} {K : Act → World → Prop} {Q : Exit → Act → World → Prop} (d s : Operand) (t t' : TypeId)
    (ho : o.op = .call { callee := .builtin .copy, args := #[d, s], argTypes := #[t, t'] }) (v u : Value) (hd : a.eval d = v) (hs : a.eval s = u) {v' : Value} {w' : World}
    (hr : (Builtin.copy_ #[t, t'] o.type #[v, u]).run P w = .ok v' w') (h : K (a.put o.dst v') w') : o.wp P a w K Q := by
  unfold Oper.wp execOp
  simp only [ho, resolve, invoke, builtin, Sem.run_bind, Sem.run_pure, Result.andThen_ok, List.map_toArray, List.map_cons, List.map_nil, hd, hs, hr]
  exact h
theorem wpList_copy_runI (w : World) {ops : Array Oper} {rest : List Oper} {o : Oper} {a : Act} {Q : Exit → Act → World → Prop} (hgd : o.guard = none) (d s : Operand) (t t' : TypeId)
    (ho : o.op = .call { callee := .builtin .copy, args := #[d, s], argTypes := #[t, t'] }) (v u : Value) (hd : a.eval d = v) (hs : a.eval s = u) {v' : Value} {w' : World}
    (hr : (Builtin.copy_ #[t, t'] o.type #[v, u]).run P w = .ok v' w') (h : wpList P ops Q rest (a.put o.dst v') w') : wpList P ops Q (o :: rest) a w :=
  wpList_plain hgd fun _ hK => wp_copy_runI w d s t t' ho v u hd hs hr (hK _ _ h)
theorem step_copy_runI {ops : Array Oper} {o : Oper} {a : Act} {w : World} {K : Act → World → Prop} {Q : Exit → Act → World → Prop} {E : Prop}
    (hg : o.guard = none) (d x : Operand) (dT sT : TypeId) (hop : o.op = Op.call { callee := Callee.builtin Builtin.copy, args := #[d, x], argTypes := #[dT, sT] })
    (v u : Value) (hd : a.eval d = v) (hx : a.eval x = u) {v' : Value} {w' : World} (hr : (Builtin.copy_ #[dT, sT] o.type #[v, u]).run P w = .ok v' w') (hK : K (a.put o.dst v') w') :
    if Region.wanted o (yielded ops a.tmps) = true then Oper.wp P o a w K Q else E := by
  have hw : Region.wanted o (yielded ops a.tmps) = true := by simp [Region.wanted, hg]
  rw [if_pos hw]
  unfold Oper.wp
  simp [execOp, hop, resolve, invoke, builtin, hd, hx, hr, Result.andThen]
  exact hK
end
theorem run_overlaps_row {P : Program} (w : World) (tS tR e : TypeId) (ht : P.underlying tS = some (.slice e)) (size : Nat) (hz : ∀ w, (Go.sizeOf e).run P w = .ok size w) (a b : Addr) (la ca lb cb : Nat) (hne : a.block ≠ b.block) (tA tB : TypeId) (kA kB : Nat)
    (hsa : w.shape? a.block = some (tA, kA + 1)) (hsb : w.shape? b.block = some (tB, kB + 1)) (hfb : w.frozen? b = false) (hfe : w.frozen? { block := b.block, off := kB + 1 } = false) :
    (Extern.SlicesOverlaps.overlaps #[tS, tS] #[tR] #[.slice (some a) la ca, .slice (some b) lb cb]).run P w = .ok (.bool false) w := by
  have hnb : (a.block != b.block) = true := by simpa using hne
  have hnb' : (a.block == b.block) = false := by simpa using hne
  change Sem.run P (α := Value) (do
    let some t := (#[tS, tS] : Array TypeId)[0]? | stuck "slices.overlaps: no parameter types"
    let .slice elem ← underlying t | stuck "slices.overlaps: slice type expected"
    let size ← sizeOf elem
    match (some a : Option Addr), (some b : Option Addr) with
    | some a, some b =>
      if la = 0 ∨ lb = 0 ∨ size = 0 then pure (Value.bool false)
      else if a.block != b.block && (← frozen a) && (← frozen b) then unsupported .addressObserved
      else do
        if a.block != b.block then do
          noView a; noView b
          if ← mayBeOne a b then return Value.bool ((← choose (.extern "sameAddr.stringBytes" 2)) == 1)
        pure (Value.bool (a.block == b.block && a.off < b.off + lb * size && b.off < a.off + la * size))
    | _, _ => pure (Value.bool false)) w = _
  by_cases h0 : la = 0 ∨ lb = 0 ∨ size = 0
  · simp [run_underlying ht, hz, h0]
  · cases hfa : w.frozen? a <;> cases hfa2 : w.frozen? { block := a.block, off := kA + 1 } <;>
      simp [run_underlying ht, hz, h0, hnb, hnb', frozen, noView, viewAt, mayBeOne, stringish, shape, Sem.run, hsa, hsb, hfa, hfa2, hfb, hfe]
theorem shape_of_cell {w : World} {b o : Nat} {v : Value} (h : w.cell? ⟨b, o, none⟩ = some v) : ∃ t k, w.shape? b = some (t, k + 1) := by
  unfold World.cell? at h
  unfold World.shape?
  split at h
  · rename_i cs e z hq
    simp only at hq
    rw [hq]
    have : o < cs.size := by
      simp only at h
      exact (Array.getElem?_eq_some_iff.1 h).1
    exact ⟨e, cs.size - 1, by simp only; congr 2; omega⟩
  · cases h
set_option maxHeartbeats 4000000 in
set_option maxRecDepth 100000 in
theorem insert_end_room (g cap n : Nat) (e : TypeId) (cur : Array Value) (xc : List Value) (xb xo xcap : Nat) (w : World) (hg : w.heap[g]? = some (.cells cur e (0, 0))) (hsz : cur.size = cap * 7) (hroom : n + 1 ≤ cap)
    (hxl : xc.length = 7) (hx : ∀ (j : Nat) v, xc[j]? = some v → w.cell? ⟨xb, xo + j, none⟩ = some v) (h1 : ∀ v ∈ xc, v.oneCell' = true) :
    Calls Tryd.prog 35 #[.slice (some ⟨g, 0, none⟩) n cap, .int .i64 n, .slice (some ⟨xb, xo, none⟩) 1 xcap] w fun e' w' =>
      e' = .returned (.slice (some ⟨g, 0, none⟩) (n + 1) cap) ∧ w' = w.setRow g (cur.toList.take (n * 7) ++ xc ++ cur.toList.drop (n * 7 + 7)).toArray := by
  obtain ⟨i0, hi0, hz0, hzs, hzb⟩ := info_parts info_pair
  have hrun : ∀ ty, (Builtin.append_ #[28, 28] ty #[.slice (some ⟨g, 0, none⟩) n cap, .slice (some ⟨xb, xo, none⟩) 1 xcap]).run Tryd.prog w = .ok (.slice (some ⟨g, 0, none⟩) (n + 1) cap) (w.setRow g (cur.toList.take (n * 7) ++ xc ++ cur.toList.drop (n * 7 + 7)).toArray) := fun ty => by
    have := run_append_room' w 28 ty 73 e i0 Tryd.underlying28 hi0 g n cap cur hg ⟨xb, xo, none⟩ 1 xcap xc (by rw [hzs, hxl]) (fun j u hj => by rw [Addr.add_lit]; exact hx j u hj) h1 hroom (by rw [hzs, hxl, hsz]; have := Nat.mul_le_mul_right 7 hroom; omega)
    rw [hzs, hxl] at this
    exact this
  go_enter Tryd.func35, Tryd.ntmps35
  go_wp2_with (at_builtin; refine Lib.wpList_append_run _ rfl _ _ _ _ rfl _ _ rfl rfl _ _ (hrun _) ?_)
  go_ret
  exact ⟨rfl, by simp⟩
/-- a new row of k elements, whose cells are cs -/
def InsNew (w : World) (k : Nat) (cs : List Value) (e' : Ending) (w' : World) : Prop := ∃ (cap' : Nat) (zs : List Value), k ≤ cap' ∧ (∀ u ∈ zs, u.oneCell' = true) ∧ k * 7 + zs.length = cap' * 7 ∧
  e' = .returned (.slice (some ⟨w.heap.size, 0, none⟩) k cap') ∧ ∃ w0 : World, w'.heap = w0.heap ∧ Below w.heap.size w w' ∧ w0.heap[w.heap.size]? = some (.cells (cs ++ zs).toArray 73 (0, 0))
theorem InsNew.of {w : World} {k cap' : Nat} {cs zs : List Value} (h1 : k ≤ cap') (h2 : ∀ u ∈ zs, u.oneCell' = true) (h3 : k * 7 + zs.length = cap' * 7) : InsNew w k cs (.returned (.slice (some ⟨w.heap.size, 0, none⟩) k cap')) (w.drew.alloc (.cells (cs ++ zs).toArray 73)) :=
  ⟨cap', zs, h1, h2, h3, rfl, _, rfl, ((Below.refl _ _).drew).alloc (Nat.le_refl _) _, heap_alloc_new w.drew _⟩
set_option maxHeartbeats 4000000 in
set_option maxRecDepth 100000 in
theorem insert_end_grow (g cap n : Nat) (olds xc : List Value) (xb xo xcap : Nat) (w : World) (hroom : cap < n + 1) (hb : (n + 1) * 104 ≤ 140737488355328) (hol : olds.length = n * 7) (hold : ∀ (j : Nat) v, olds[j]? = some v → w.cell? ⟨g, j, none⟩ = some v)
    (hxl : xc.length = 7) (hx : ∀ (j : Nat) v, xc[j]? = some v → w.cell? ⟨xb, xo + j, none⟩ = some v) :
    Calls Tryd.prog 35 #[.slice (some ⟨g, 0, none⟩) n cap, .int .i64 n, .slice (some ⟨xb, xo, none⟩) 1 xcap] w (InsNew w (n + 1) (olds ++ xc)) := by
  obtain ⟨i0, hi0, hz0, hzs, hzb⟩ := info_parts info_pair
  have hge := grownCap_ge w (n + 1) cap 73
  obtain ⟨cap', hcap'⟩ : ∃ c, c = grownCap w (n + 1) cap 73 := ⟨_, rfl⟩
  obtain ⟨zs, hzs'⟩ : ∃ zs, zs = (Builtin.zeroCells zeroP.cells (grownCap w (n + 1) cap 73 - (n + 1))).toList := ⟨_, rfl⟩
  have hz1 : ∀ u ∈ zs, u.oneCell' = true := by rw [hzs']; exact zeros_one (by simp [zeroP, Value.cells, Value.oneCell']) _
  have hz2 : (n + 1) * 7 + zs.length = cap' * 7 := by
    have : (zeroP.cells).size = 7 := rfl
    rw [hzs', hcap']
    simp only [Array.length_toList, size_zeroCells, this]
    rw [← Nat.add_mul]
    congr 1
    omega
  have hrun : ∀ ty, (Builtin.append_ #[28, 28] ty #[.slice (some ⟨g, 0, none⟩) n cap, .slice (some ⟨xb, xo, none⟩) 1 xcap]).run Tryd.prog w = .ok (.slice (some ⟨w.heap.size, 0, none⟩) (n + 1) cap') (w.drew.alloc (.cells ((olds ++ xc) ++ zs).toArray 73)) := fun ty => by
    have := run_append_grow w 28 ty 73 i0 _ Tryd.underlying28 hi0 hz0 ⟨g, 0, none⟩ n cap olds (by rw [hzs]; exact hol) (fun j u hj => by rw [Addr.add_lit, Nat.zero_add]; exact hold j u hj) ⟨xb, xo, none⟩ 1 xcap xc (by rw [hzs, hxl]) (fun j u hj => by rw [Addr.add_lit]; exact hx j u hj) hroom (by omega) (by rw [hzb]; exact growslice_fits hroom hb)
    rw [this, hcap', hzs']
    congr 3
    apply Array.ext'
    simp
  have hcg : n + 1 ≤ cap' := by rw [hcap']; exact hge
  clear hcap' hzs'
  go_enter Tryd.func35, Tryd.ntmps35
  go_wp2_with (at_builtin; refine Lib.wpList_append_run _ rfl _ _ _ _ rfl _ _ rfl rfl _ _ (hrun _) ?_)
  all_goals (go_ret; have := InsNew.of (w := w) (cs := olds ++ xc) hcg hz1 hz2; rw [List.append_assoc] at this; exact this)
set_option maxHeartbeats 4000000 in
set_option maxRecDepth 100000 in
theorem insert_nil (xc : List Value) (xb xo xcap : Nat) (w : World) (hxl : xc.length = 7) (hx : ∀ (j : Nat) v, xc[j]? = some v → w.cell? ⟨xb, xo + j, none⟩ = some v) :
    Calls Tryd.prog 35 #[.slice none 0 0, .int .i64 0, .slice (some ⟨xb, xo, none⟩) 1 xcap] w (InsNew w 1 xc) := by
  obtain ⟨i0, hi0, hz0, hzs, hzb⟩ := info_parts info_pair
  have hge := grownCap_ge w 1 0 73
  obtain ⟨cap', hcap'⟩ : ∃ c, c = grownCap w 1 0 73 := ⟨_, rfl⟩
  obtain ⟨zs, hzs'⟩ : ∃ zs, zs = (Builtin.zeroCells zeroP.cells (grownCap w 1 0 73 - 1)).toList := ⟨_, rfl⟩
  have hz1 : ∀ u ∈ zs, u.oneCell' = true := by rw [hzs']; exact zeros_one (by simp [zeroP, Value.cells, Value.oneCell']) _
  have hz2 : 7 + zs.length = cap' * 7 := by
    have : (zeroP.cells).size = 7 := rfl
    rw [hzs', hcap']
    simp only [Array.length_toList, size_zeroCells, this]
    omega
  have hrun : ∀ ty, (Builtin.append_ #[28, 28] ty #[.slice none 0 0, .slice (some ⟨xb, xo, none⟩) 1 xcap]).run Tryd.prog w = .ok (.slice (some ⟨w.heap.size, 0, none⟩) 1 cap') (w.drew.alloc (.cells (xc ++ zs).toArray 73)) := fun ty => by
    have := run_append_nil w 28 ty 73 i0 _ Tryd.underlying28 hi0 hz0 ⟨xb, xo, none⟩ 1 xcap xc (by rw [hzs, hxl]) (fun j u hj => by rw [Addr.add_lit]; exact hx j u hj) (by omega) (by omega) (by omega)
    rw [this, hcap', hzs']
    congr 3
    apply Array.ext'
    simp
  have hcg : 1 ≤ cap' := by rw [hcap']; exact hge
  clear hcap' hzs'
  go_enter Tryd.func35, Tryd.ntmps35
  go_wp2_with (at_builtin; refine Lib.wpList_append_run _ rfl _ _ _ _ rfl _ _ rfl rfl _ _ (hrun _) ?_)
  go_ret
  have := InsNew.of (w := w) (k := 1) (cs := xc) hcg hz1 (by omega)
  exact this
/-- the row itself, of k elements now -/
def InsSame (w : World) (g cap k : Nat) (e : TypeId) (cs : List Value) (e' : Ending) (w' : World) : Prop := e' = .returned (.slice (some ⟨g, 0, none⟩) k cap) ∧ BelowBut g w w' ∧ ∃ cur' : Array Value, w'.heap[g]? = some (.cells cur' e (0, 0)) ∧ cur'.toList = cs
theorem below_but {g : Nat} {w w' : World} (h1 : w'.os = w.os) (h2 : w'.tape = w.tape) (h3 : w'.output = w.output) (cs : Array Value) (h : w'.heap = (w.setRow g cs).heap) : BelowBut g w w' :=
  ⟨h1, h2, h3, by rw [h]; simp [World.setRow], fun k _ hk => by rw [h]; exact setRow_other w g k cs hk⟩
theorem setRow_setRow (w : World) (g : Nat) (c a b : Array Value) {e : TypeId} (hg : w.heap[g]? = some (.cells c e (0, 0))) : ((w.setRow g a).setRow g b).heap = (w.setRow g b).heap := by
  apply Array.ext_getElem?
  intro k
  by_cases hk : k = g
  · subst hk
    rw [setRow_heap _ k a b e (0, 0) (setRow_heap _ k c a e (0, 0) hg), setRow_heap _ k c b e (0, 0) hg]
  · rw [setRow_other _ g k b hk, setRow_other _ g k a hk, setRow_other _ g k b hk]
set_option maxHeartbeats 4000000 in
set_option maxRecDepth 100000 in
theorem insert_shift (g cap n i : Nat) (e : TypeId) (cur : Array Value) (xc : List Value) (xb xo xcap : Nat) (w : World) (hg : w.heap[g]? = some (.cells cur e (0, 0))) (hsz : cur.size = cap * 7) (hroom : n + 1 ≤ cap) (hi : i < n) (hone : ∀ u ∈ cur.toList, u.oneCell' = true) (hn63 : n ≤ 9000000000000000000)
    (hxl : xc.length = 7) (hx : ∀ (j : Nat) v, xc[j]? = some v → w.cell? ⟨xb, xo + j, none⟩ = some v) (h1 : ∀ v ∈ xc, v.oneCell' = true) (hne : xb ≠ g)
    (hov : ∀ lb cb, (callFunc 59 #[.slice (some ⟨xb, xo, none⟩) 1 xcap, .slice (some ⟨g, (i + 1) * 7, none⟩) lb cb]).run Tryd.prog w = .ok (.value (.bool false)) w) :
    Calls Tryd.prog 35 #[.slice (some ⟨g, 0, none⟩) n cap, .int .i64 i, .slice (some ⟨xb, xo, none⟩) 1 xcap] w
      (InsSame w g cap (n + 1) e (cur.toList.take (i * 7) ++ xc ++ (cur.toList.drop (i * 7)).take ((n - i) * 7) ++ cur.toList.drop ((n + 1) * 7))) := by
  obtain ⟨i0, hi0, hz0, hzs, hzb⟩ := info_parts info_pair
  have hz2 : ¬ ((i : Int) = (n : Int)) := by omega
  have hw1 : IntKind.i64.wrap ((i : Int) + 1) = (i : Int) + 1 := by rw [IntKind.wrap_i64]; omega
  have hw2 : IntKind.i64.wrap ((n : Int) + 1) = (n : Int) + 1 := by rw [IntKind.wrap_i64]; omega
  have hcl : cur.toList.length = cap * 7 := by simpa using hsz
  have hle1 : (n + 1) * 7 ≤ cap * 7 := Nat.mul_le_mul_right _ hroom
  obtain ⟨cur1, hcp1, cur2, hcp2, hfin⟩ : ∃ cur1 : Array Value, (∀ ty dc sc, (Builtin.copy_ #[28, 28] ty #[.slice (some ⟨g, (i + 1) * 7, none⟩) (n - i) dc, .slice (some ⟨g, i * 7, none⟩) (n + 1 - i) sc]).run Tryd.prog w.drew = .ok (goInt ((n - i : Nat) : Int)) (w.drew.setRow g cur1)) ∧
      ∃ cur2 : Array Value, (∀ ty dc, (Builtin.copy_ #[28, 28] ty #[.slice (some ⟨g, i * 7, none⟩) (n + 1 - i) dc, .slice (some ⟨xb, xo, none⟩) 1 xcap]).run Tryd.prog (w.drew.setRow g cur1) = .ok (goInt ((1 : Nat) : Int)) ((w.drew.setRow g cur1).setRow g cur2)) ∧
        InsSame w g cap (n + 1) e (cur.toList.take (i * 7) ++ xc ++ (cur.toList.drop (i * 7)).take ((n - i) * 7) ++ cur.toList.drop ((n + 1) * 7)) (.returned (.slice (some ⟨g, 0, none⟩) (n + 1) cap)) ((w.drew.setRow g cur1).setRow g cur2) := by
    have hcsl : ((cur.toList.drop (i * 7)).take ((n - i) * 7)).length = (n - i) * 7 := by
      rw [List.length_take, List.length_drop, hcl]
      omega
    have hcp1 : ∀ ty dc sc, _ := fun ty dc sc => run_copy_row w.drew 28 28 ty 73 i0 Tryd.underlying28 hi0 g ((i + 1) * 7) (n - i) dc e cur hg ⟨g, i * 7, none⟩ (n + 1 - i) sc (n - i) (by simp only [Nat.min_def]; split <;> omega) ((cur.toList.drop (i * 7)).take ((n - i) * 7)) (by rw [hzs]; exact hcsl) (fun j u hj => by
      rw [Addr.add_lit, show w.drew.cell? ⟨g, i * 7 + j, none⟩ = w.cell? ⟨g, i * 7 + j, none⟩ from rfl, cell_of_row w g _ cur e (0, 0) hg]
      rw [List.getElem?_take] at hj
      split at hj
      · rw [List.getElem?_drop] at hj
        simpa using hj
      · cases hj) (fun u hu => hone u (List.mem_of_mem_drop (List.mem_of_mem_take hu))) (by rw [hcsl, hsz]; omega)
    refine ⟨_, hcp1, ?_⟩
    generalize hcur1 : (cur.toList.take ((i + 1) * 7) ++ (cur.toList.drop (i * 7)).take ((n - i) * 7) ++ cur.toList.drop ((i + 1) * 7 + ((cur.toList.drop (i * 7)).take ((n - i) * 7)).length)).toArray = cur1
    have hc1 : cur1.toList = cur.toList.take ((i + 1) * 7) ++ (cur.toList.drop (i * 7)).take ((n - i) * 7) ++ cur.toList.drop ((i + 1) * 7 + ((cur.toList.drop (i * 7)).take ((n - i) * 7)).length) := by rw [← hcur1]
    have hc1l : cur1.size = cap * 7 := by
      have : cur1.toList.length = cap * 7 := by
        rw [hc1]
        simp only [List.length_append, List.length_take, List.length_drop, hcl]
        omega
      simpa using this
    have hg1 : (w.drew.setRow g cur1).heap[g]? = some (.cells cur1 e (0, 0)) := setRow_heap w.drew g cur cur1 e (0, 0) hg
    have hcp2 : ∀ ty dc, _ := fun ty dc => run_copy_row (w.drew.setRow g cur1) 28 28 ty 73 i0 Tryd.underlying28 hi0 g (i * 7) (n + 1 - i) dc e cur1 hg1 ⟨xb, xo, none⟩ 1 xcap 1 (by simp only [Nat.min_def]; split <;> omega) xc (by rw [hzs]; exact hxl) (fun j u hj => by
      rw [Addr.add_lit, cell_setRow_other _ g _ ⟨xb, xo + j, none⟩ hne]
      exact hx j u hj) h1 (by rw [hxl, hc1l]; omega)
    refine ⟨_, hcp2, rfl, below_but rfl rfl rfl _ (setRow_setRow w.drew g cur _ _ hg), _, setRow_heap (w.drew.setRow g cur1) g cur1 _ e (0, 0) hg1, ?_⟩
    have hl1 : (cur.toList.take ((i + 1) * 7)).length = (i + 1) * 7 := by rw [List.length_take, hcl]; omega
    have e1 : cur1.toList.take (i * 7) = cur.toList.take (i * 7) := by
      rw [hc1, List.append_assoc, List.take_append_of_le_length (by omega), List.take_take]
      congr 1
      omega
    have e2 : cur1.toList.drop (i * 7 + xc.length) = (cur.toList.drop (i * 7)).take ((n - i) * 7) ++ cur.toList.drop ((n + 1) * 7) := by
      rw [hc1, hxl, List.append_assoc, show i * 7 + 7 = (cur.toList.take ((i + 1) * 7)).length by omega, List.drop_left, hcsl]
      congr 2
      omega
    rw [e1, e2]
    simp
  have hn0 : n - i ≤ n := by omega
  clear hcl hle1 hsz hg
  go_enter Tryd.func35, Tryd.ntmps35
  go_wp2_with (simp only [hov])
  have mixed : Tryd.prog.follows .mixedOrders = true := by kernel_rfl
  have hb1 : (0 : Int) ≤ (i : Int) + 1 := by omega
  have hin : i ≤ n := by omega
  have htn : ((i : Int) + 1).toNat = i + 1 := by omega
  have hb2 : ¬ (cap = i + 1) := by omega
  have hb3 : (i : Int) ≤ (n : Int) + 1 := by omega
  have hb4 : ¬ (cap = i) := by omega
  have hb5 : i ≤ n + 1 := by omega
  go_region_law_o (refine step_copy_runI rfl _ _ 28 28 rfl _ _ (by simp [Act.eval, Act.put]) (by simp [Act.eval, Act.put]) (hcp1 _ _ _) ?_)
  go_wp2_with (at_builtin; refine wpList_copy_runI _ rfl _ _ 28 28 rfl _ _ rfl rfl (hcp2 _ _) ?_)
  go_ret
  exact hfin
set_option maxHeartbeats 4000000 in
set_option maxRecDepth 100000 in
theorem insert_grow (g cap n i : Nat) (e : TypeId) (cur : Array Value) (xc : List Value) (xb xo xcap : Nat) (w : World) (hg : w.heap[g]? = some (.cells cur e (0, 0))) (hsz : cur.size = cap * 7) (hnc : n ≤ cap) (hroom : cap < n + 1) (hb : (n + 1) * 104 ≤ 140737488355328) (hi : i < n) (hone : ∀ u ∈ cur.toList, u.oneCell' = true)
    (hxl : xc.length = 7) (hx : ∀ (j : Nat) v, xc[j]? = some v → w.cell? ⟨xb, xo + j, none⟩ = some v) (h1 : ∀ v ∈ xc, v.oneCell' = true) :
    Calls Tryd.prog 35 #[.slice (some ⟨g, 0, none⟩) n cap, .int .i64 i, .slice (some ⟨xb, xo, none⟩) 1 xcap] w
      (InsNew w (n + 1) (cur.toList.take (i * 7) ++ xc ++ (cur.toList.drop (i * 7)).take ((n - i) * 7))) := by
  obtain ⟨i0, hi0, hz0, hzs, hzb⟩ := info_parts info_pair
  have hz2 : ¬ ((i : Int) = (n : Int)) := by omega
  have hz3 : (cap : Int) < (n : Int) + 1 := by omega
  have hcl : cur.toList.length = cap * 7 := by simpa using hsz
  have hle1 : n * 7 ≤ cap * 7 := Nat.mul_le_mul_right _ hnc
  have hge := grownCap_ge w (n + 1) cap 73
  have hgw : g < w.heap.size := (Array.getElem?_eq_some_iff.1 hg).1
  obtain ⟨G, hGn, W1, W2, W3, hrz, hA, hB, hfin⟩ : ∃ G, n + 1 ≤ G ∧ ∃ W1 W2 W3 : World, (∀ ty, (Builtin.append_ #[28, 3] ty #[.slice (some ⟨g, 0, none⟩) i cap, .int .i64 ((n : Int) + 1 - (i : Int))]).run Tryd.prog w = .ok (.slice (some ⟨w.heap.size, 0, none⟩) (n + 1) G) W1) ∧
      (∀ ty dc, (Builtin.copy_ #[28, 28] ty #[.slice (some ⟨w.heap.size, i * 7, none⟩) (n + 1 - i) dc, .slice (some ⟨xb, xo, none⟩) 1 xcap]).run Tryd.prog W1 = .ok (goInt ((1 : Nat) : Int)) W2) ∧
      (∀ ty dc sc, (Builtin.copy_ #[28, 28] ty #[.slice (some ⟨w.heap.size, (i + 1) * 7, none⟩) (n - i) dc, .slice (some ⟨g, i * 7, none⟩) (n - i) sc]).run Tryd.prog W2.drew = .ok (goInt ((n - i : Nat) : Int)) W3) ∧
      InsNew w (n + 1) (cur.toList.take (i * 7) ++ xc ++ (cur.toList.drop (i * 7)).take ((n - i) * 7)) (.returned (.slice (some ⟨w.heap.size, 0, none⟩) (n + 1) G)) W3 := by
    have hold : (Builtin.firstCells i0.size i (.slice (some ⟨g, 0, none⟩) i cap)).run Tryd.prog w.drew = .ok (cur.toList.take (i * 7)).toArray w.drew := by
      rw [hzs]
      exact run_firstCells_some w.drew 7 i ⟨g, 0, none⟩ i cap (cur.toList.take (i * 7)) (by rw [List.length_take]; omega) (fun j v hj => by
        rw [Addr.add_lit, Nat.zero_add, show w.drew.cell? ⟨g, j, none⟩ = w.cell? ⟨g, j, none⟩ from rfl, cell_of_row w g _ cur e (0, 0) hg]
        rw [List.getElem?_take] at hj
        split at hj
        · simpa using hj
        · cases hj)
    have hkk : (n : Int) + 1 - (i : Int) = ((n + 1 - i : Nat) : Int) := by omega
    have hik : i + (n + 1 - i) = n + 1 := by omega
    have hrz : ∀ ty, _ := fun ty => Lib.run_append_grow_zeros w 28 3 ty 73 i0 _ .i64 .i64 Tryd.underlying28 Tryd.underlying3 hi0 hz0 (some ⟨g, 0, none⟩) i cap (cur.toList.take (i * 7)) hold (n + 1 - i) (by omega) (by omega) (by omega) (by omega) (by rw [hzb]; omega) (by rw [hzb, hik]; exact growslice_fits hroom hb)
    simp only [hik] at hrz
    have hzl : ∀ k, (Builtin.zeroCells zeroP.cells k).toList.length = k * 7 := fun k => by
      have : (zeroP.cells).size = 7 := rfl
      simp only [Array.length_toList, size_zeroCells, this]
    have hzo : ∀ k, ∀ u ∈ (Builtin.zeroCells zeroP.cells k).toList, u.oneCell' = true := fun k => zeros_one (by simp [zeroP, Value.cells, Value.oneCell']) k
    generalize grownCap w (n + 1) cap 73 = G at *
    generalize hZ1 : Builtin.zeroCells zeroP.cells (n + 1 - i) = Z1 at hrz
    generalize hZ2 : Builtin.zeroCells zeroP.cells (G - (n + 1)) = Z2 at hrz
    have l1 : Z1.toList.length = (n + 1 - i) * 7 := by rw [← hZ1]; exact hzl _
    have l2 : Z2.toList.length = (G - (n + 1)) * 7 := by rw [← hZ2]; exact hzl _
    have o2 : ∀ u ∈ Z2.toList, u.oneCell' = true := by rw [← hZ2]; exact hzo _
    have lt : (cur.toList.take (i * 7)).length = i * 7 := by rw [List.length_take]; omega
    generalize hROW : (cur.toList.take (i * 7)).toArray ++ Z1 ++ Z2 = ROW at hrz
    have hRl : ROW.toList = cur.toList.take (i * 7) ++ Z1.toList ++ Z2.toList := by rw [← hROW]; simp
    have hRs : ROW.size = G * 7 := by
      have : ROW.toList.length = G * 7 := by rw [hRl, List.length_append, List.length_append, lt, l1, l2]; omega
      simpa using this
    have hN1 : (w.drew.alloc (.cells ROW 73)).heap[w.heap.size]? = some (.cells ROW 73 (0, 0)) := heap_alloc_new w.drew _
    have hW1c : ∀ (b o : Nat) v, w.cell? ⟨b, o, none⟩ = some v → (w.drew.alloc (.cells ROW 73)).cell? ⟨b, o, none⟩ = some v := fun b o v h => by
      rw [World.cell?_alloc_lt w.drew _ _ (World.block_lt_of_cell? w.drew _ h)]
      exact h
    have hne : ∀ (b o : Nat) v, w.cell? ⟨b, o, none⟩ = some v → b ≠ w.heap.size := fun b o v h e => by
      have := World.block_lt_of_cell? w _ h
      simp only at this
      omega
    have hA : ∀ ty dc, _ := fun ty dc => run_copy_row (w.drew.alloc (.cells ROW 73)) 28 28 ty 73 i0 Tryd.underlying28 hi0 w.heap.size (i * 7) (n + 1 - i) dc 73 ROW hN1 ⟨xb, xo, none⟩ 1 xcap 1 (by simp only [Nat.min_def]; split <;> omega) xc (by rw [hzs]; exact hxl) (fun j u hj => by
      rw [Addr.add_lit]
      exact hW1c _ _ _ (hx j u hj)) h1 (by rw [hxl, hRs]; omega)
    generalize hRA : (ROW.toList.take (i * 7) ++ xc ++ ROW.toList.drop (i * 7 + xc.length)).toArray = RA at hA
    have hRAl : RA.toList = cur.toList.take (i * 7) ++ xc ++ ROW.toList.drop (i * 7 + 7) := by
      rw [← hRA, hRl, List.append_assoc (cur.toList.take (i * 7)), List.take_append_of_le_length (by omega), List.take_of_length_le (by omega), hxl]
    have hRAs : RA.size = G * 7 := by
      have : RA.toList.length = G * 7 := by rw [hRAl, List.length_append, List.length_append, lt, hxl, List.length_drop]; simp only [Array.length_toList, hRs]; omega
      simpa using this
    have hN2 : ((w.drew.alloc (.cells ROW 73)).setRow w.heap.size RA).heap[w.heap.size]? = some (.cells RA 73 (0, 0)) := setRow_heap _ _ ROW RA 73 (0, 0) hN1
    have hcsl : ((cur.toList.drop (i * 7)).take ((n - i) * 7)).length = (n - i) * 7 := by
      rw [List.length_take, List.length_drop, hcl]
      omega
    have hB : ∀ ty dc sc, _ := fun ty dc sc => run_copy_row ((w.drew.alloc (.cells ROW 73)).setRow w.heap.size RA).drew 28 28 ty 73 i0 Tryd.underlying28 hi0 w.heap.size ((i + 1) * 7) (n - i) dc 73 RA hN2 ⟨g, i * 7, none⟩ (n - i) sc (n - i) (by simp only [Nat.min_def]; split <;> omega) ((cur.toList.drop (i * 7)).take ((n - i) * 7)) (by rw [hzs]; exact hcsl) (fun j u hj => by
      have h2 : w.cell? ⟨g, i * 7 + j, none⟩ = some u := by
        rw [cell_of_row w g _ cur e (0, 0) hg]
        rw [List.getElem?_take] at hj
        split at hj
        · rw [List.getElem?_drop] at hj
          simpa using hj
        · cases hj
      rw [Addr.add_lit]
      exact (cell_setRow_other (w.drew.alloc (.cells ROW 73)) w.heap.size RA ⟨g, i * 7 + j, none⟩ (hne _ _ _ h2)).trans (hW1c _ _ _ h2)) (fun u hu => hone u (List.mem_of_mem_drop (List.mem_of_mem_take hu))) (by rw [hcsl, hRAs]; omega)
    refine ⟨G, hge, _, _, _, (fun ty => by rw [hkk]; exact hrz ty), hA, hB, G, Z2.toList, hge, o2, by rw [l2]; omega, rfl, _, rfl, ?_, ?_⟩
    · refine Below.trans (b := (w.drew.alloc (.cells ROW 73))) (((Below.refl _ _).drew).alloc (Nat.le_refl _) _) ?_
      exact ⟨rfl, rfl, rfl, by simp [World.setRow], fun k hk => (setRow_other _ _ k _ (by omega)).trans (setRow_other _ _ k _ (by omega))⟩
    · have h3 := setRow_heap ((w.drew.alloc (.cells ROW 73)).setRow w.heap.size RA).drew w.heap.size RA (RA.toList.take ((i + 1) * 7) ++ (cur.toList.drop (i * 7)).take ((n - i) * 7) ++ RA.toList.drop ((i + 1) * 7 + ((cur.toList.drop (i * 7)).take ((n - i) * 7)).length)).toArray 73 (0, 0) hN2
      refine h3.trans ?_
      congr 2
      have e1 : RA.toList.take ((i + 1) * 7) = cur.toList.take (i * 7) ++ xc := by
        rw [hRAl, List.take_append_of_le_length (by rw [List.length_append, lt, hxl]; omega), List.take_of_length_le (by rw [List.length_append, lt, hxl]; omega)]
      have e2 : RA.toList.drop ((i + 1) * 7 + ((cur.toList.drop (i * 7)).take ((n - i) * 7)).length) = Z2.toList := by
        rw [hRAl, hRl, hcsl]
        rw [show (i + 1) * 7 + (n - i) * 7 = (cur.toList.take (i * 7) ++ xc).length + (n - i) * 7 by rw [List.length_append, lt, hxl]; omega, ← List.drop_drop, List.drop_left, List.drop_drop]
        rw [show i * 7 + 7 + (n - i) * 7 = (cur.toList.take (i * 7) ++ Z1.toList).length by rw [List.length_append, lt, l1]; omega, List.drop_left]
      rw [e1, e2]
  have hn0 : n - i ≤ n := by omega
  clear hcl hle1 hsz hg hge
  have hw1 : IntKind.i64.wrap ((i : Int) + 1) = (i : Int) + 1 := by rw [IntKind.wrap_i64]; omega
  have hw2 : IntKind.i64.wrap ((n : Int) + 1) = (n : Int) + 1 := by rw [IntKind.wrap_i64]; omega
  have hw3 : IntKind.i64.wrap ((n : Int) + 1 - i) = (n : Int) + 1 - i := by rw [IntKind.wrap_i64]; omega
  have mixed : Tryd.prog.follows .mixedOrders = true := by kernel_rfl
  have hb1 : (0 : Int) ≤ (i : Int) + 1 := by omega
  have hin : i ≤ n := by omega
  have htn : ((i : Int) + 1).toNat = i + 1 := by omega
  have hGi : ¬ (G = i) := by omega
  have hGim : ¬ (G = i + 1) := by omega
  have hci : ¬ (cap = i) := by omega
  have hb3 : (i : Int) ≤ (n : Int) + 1 := by omega
  have hb5 : i ≤ n + 1 := by omega
  have hb6 : i ≤ cap := by omega
  go_enter Tryd.func35, Tryd.ntmps35
  go_wp2_with (first
    | (at_builtin; refine Lib.wpList_append_run _ rfl _ _ _ _ rfl _ _ rfl rfl _ _ (hrz _) ?_)
    | (at_builtin; refine wpList_copy_runI _ rfl _ _ 28 28 rfl _ _ rfl rfl (hA _ _) ?_))
  go_region_law_o (refine step_copy_runI rfl _ _ 28 28 rfl _ _ (by simp [Act.eval, Act.put]) (by simp [Act.eval, Act.put]) (hB _ _ _) ?_)
  go_wp2
  go_ret
  exact hfin
end Go.Proofs.YtgcodocajgdmcaaDoor
