/-
  The texts that the claim wants, one behind the other: part 30.
-/
import Derived.Test.YtgidajjjpeboeaaGreatDoorS29
import Derived.Shelf.SlSortCmp.NoneTotal
import Derived.Sort.OwnSorted
set_option linter.unusedSimpArgs false
set_option linter.unusedVariables false
namespace Go.Proofs.YtgidajjjpeboeaaGreatDoor
open Go.RowKit Go.Sort Go.Lib Go.Shelf
theorem drop_flat {α β : Type} {f : α → List β} {k : Nat} (hk : ∀ x, (f x).length = k) : ∀ (l : List α) (i : Nat) (x : α), l[i]? = some x → ((l.flatMap f).drop (i * k)).take k = f x
 | y :: l, 0, x, h => by
  simp at h; subst h
  rw [Nat.zero_mul, List.drop_zero, List.flatMap_cons, ← hk y, List.take_left' rfl]
 | y :: l, i + 1, x, h => by
  rw [List.flatMap_cons, Nat.add_mul, Nat.one_mul, Nat.add_comm (i * k) k, ← List.drop_drop]
  rw [show ((f y ++ l.flatMap f).drop k) = l.flatMap f from List.drop_left' (hk y)]
  exact drop_flat hk l i x (by simpa using h)
theorem flat_len {α β : Type} {f : α → List β} {k : Nat} (hk : ∀ x, (f x).length = k) : ∀ l : List α, (l.flatMap f).length = l.length * k
 | [] => by simp
 | y :: l => by rw [List.flatMap_cons, List.length_append, hk, flat_len hk l, List.length_cons, Nat.add_mul, Nat.one_mul, Nat.add_comm]
theorem flatK_list {α : Type} [Inhabited α] {f : α → List Value} {k : Nat} (hk : ∀ x, (f x).length = k) (d : Array α) : (flatK f k d).toList = d.toList.flatMap f := by
 apply List.ext_getElem?
 intro j
 by_cases hj : j < d.size * k
 ·have k0 : 0 < k := by
   rcases Nat.eq_zero_or_pos k with h | h
   ·rw [h, Nat.mul_zero] at hj; omega
   ·exact h
  have hq : j / k < d.size := (Nat.div_lt_iff_lt_mul k0).2 hj
  have hg : d.toList[j / k]? = some d[j / k]! := by
   rw [getElem!_pos d (j / k) hq, Array.getElem?_toList, Array.getElem?_eq_getElem hq]
  have h1 := drop_flat hk d.toList (j / k) _ hg
  have hr : j % k < k := Nat.mod_lt _ k0
  have h2 : (d.toList.flatMap f)[j]? = (f d[j / k]!)[j % k]? := by
   rw [← h1, List.getElem?_take_of_lt hr, List.getElem?_drop, show j / k * k + j % k = j from Nat.div_add_mod' j k]
  rw [h2, Array.getElem?_toList, Array.getElem?_eq_getElem (by rw [size_flatK]; exact hj)]
  have h3 := get_flatK f k d j hj
  rw [getElem!_pos _ j (by rw [size_flatK]; exact hj)] at h3
  rw [h3, List.getElem?_eq_getElem (by rw [hk]; exact hr), getElem!_pos _ _ (by rw [hk]; exact hr)]
 ·rw [List.getElem?_eq_none (by rw [Array.length_toList, size_flatK]; omega), List.getElem?_eq_none (by rw [flat_len hk, Array.length_toList]; omega)]
theorem heap_put {w : World} {g n : Nat} {os : Array Obj} {cur : Array Value} {e : TypeId} {fr : Nat × Nat} (F : Array Value) (hb : w.heap[g]? = some (.cells cur e fr)) :
  (grow (putRow id (Sort.ahead w n) g 0 F) os).heap[g]? = some (.cells (putCells id 0 F cur) e fr) := by
 have hg : g < w.heap.size := (Array.getElem?_eq_some_iff.1 hb).1
 rw [heap_grow_old _ _ (by simpa using hg)]
 simp [putRow, mapBlock, Sort.ahead, Array.getElem?_modify, hb, onCells]
theorem grown_put {w : World} {g n : Nat} {os : Array Obj} (F : Array Value) : w.grownBy (grow (putRow id (Sort.ahead w n) g 0 F) os) (some g) := by
 refine ⟨rfl, rfl, rfl, by simp, fun k hk hne => ?_⟩
 rw [heap_grow_old _ _ (by simpa using hk)]
 have : g ≠ k := fun e => hne (by rw [e])
 simp [putRow, mapBlock, Sort.ahead, Array.getElem?_modify, this]
theorem take_put (cur F : Array Value) (h : F.size ≤ cur.size) : (putCells id 0 F cur).toList.take F.size = F.toList := by
 apply List.ext_getElem?
 intro j
 by_cases hj : j < F.size
 ·rw [List.getElem?_take_of_lt hj, Array.getElem?_toList]
  simp [putCells, hj, show j < cur.size by omega]
 ·rw [List.getElem?_take_eq_none (by omega), List.getElem?_eq_none (by simpa using Nat.le_of_not_lt hj)]
theorem put_get (cur F : Array Value) (h : F.size ≤ cur.size) (j : Nat) (hj : F.size ≤ j) : (putCells id 0 F cur)[j]? = cur[j]? := by
 by_cases h1 : j < cur.size
 ·simp [putCells, h1, show ¬ j < F.size by omega]
 ·rw [Array.getElem?_eq_none (by simp [putCells]; omega), Array.getElem?_eq_none (by omega)]
theorem row_sort {P : Program} {ρ : Ren} (L : SlLaysF0.n6 P ρ) {size : Nat} (aE : ∀ w, (isAgg (ρ.t 24)).run P w = .ok true w) (zE : ∀ w, (Go.sizeOf (ρ.t 24)).run P w = .ok size w)
  {α κ : Type} {e : TypeId} {R : List Value → α → Prop} {w : World} {b cap : Nat} {cur : Array Value} {l : List α} (hb : w.heap[b]? = some (.cells cur e (0, 0))) (hcap : l.length ≤ cap) (hcur : cur.size = cap * size) (hR0 : ∀ i x, l[i]? = some x → R ((cur.toList.drop (i * size)).take size) x)
  (h1 : ∀ cs x, R cs x → ∀ u ∈ cs, u.oneCell' = true) {c : κ → κ → Int} (hc : CmpOk c) (key : α → κ) (hnd : (l.map key).Nodup) (hlen : l.length < 4611686018427387904)
  (g : Nat) (cb : Array Value) (eg : ∀ args w, (callFunc g args).run P w = .ok (.enter g args) w)
  (hcall : ∀ cs ds x y, x ∈ l → y ∈ l → R cs x → R ds y → ∀ W, w.grownBy W (some b) → Calls P g (#[.agg cs.toArray, .agg ds.toArray] ++ cb) W fun e w' => e = .returned (.int .i64 (c (key x) (key y))) ∧ ∃ q os', w' = grow (W.drewN q) os') :
  Calls P (ρ.f 6) #[.slice (some ⟨b, 0, none⟩) l.length cap, .func (.func g) #[] cb] w fun e' w' => e' = .returned (.tuple #[]) ∧ ∃ (l' : List α) (cur' : Array Value), l'.Perm l ∧ l'.Pairwise (fun x y => c (key x) (key y) < 0) ∧ w'.heap[b]? = some (.cells cur' e (0, 0)) ∧ cur'.size = cur.size ∧
   (∀ i x, l'[i]? = some x → R ((cur'.toList.drop (i * size)).take size) x) ∧ (∀ j, l.length * size ≤ j → cur'[j]? = cur[j]?) ∧ w.grownBy w' (some b) := by
 have hcl : cur.toList.length = cap * size := by simpa using hcur
 by_cases hl0 : l.length = 0
 ·obtain rfl := List.length_eq_zero_iff.1 hl0
  refine (AnyF.slices_SortFunc_none L (some ⟨b, 0, none⟩) cap _ w).mono ?_
  rintro e' w' ⟨rfl, rfl⟩
  exact ⟨rfl, [], cur, .refl _, .nil, hb, rfl, fun i x hx => by simp at hx, fun j _ => rfl, ⟨rfl, rfl, rfl, Nat.le_refl _, fun _ _ _ => rfl⟩⟩
 have hne : 0 < l.length := by omega
 haveI : Inhabited (Fin l.length) := ⟨⟨0, hne⟩⟩
 have hbl : b < w.heap.size := (Array.getElem?_eq_some_iff.1 hb).1
 obtain ⟨xs, hxs⟩ : ∃ xs, cur.toList.take (l.length * size) = xs := ⟨_, rfl⟩
 have hle : l.length * size ≤ cap * size := Nat.mul_le_mul_right _ hcap
 have hxl : xs.length = l.length * size := by rw [← hxs, List.length_take, hcl]; omega
 have htake : cur.toList.take (l.length * size) = xs := hxs
 have hin : ∀ i : Fin l.length, i.val * size + size ≤ xs.length := fun i => by
  have := Nat.mul_le_mul_right size (show i.val + 1 ≤ l.length from i.isLt)
  rw [Nat.add_mul, Nat.one_mul] at this
  omega
 have hR : ∀ (i : Fin l.length) x, l[i.val]? = some x → R ((xs.drop (i.val * size)).take size) x := fun i x hx => by
  have h2 := hR0 i.val x hx
  have : (xs.drop (i.val * size)).take size = (cur.toList.drop (i.val * size)).take size := by
   rw [← hxs, List.drop_take, List.take_take]
   congr 1
   have := hin i
   omega
  rw [this]
  exact h2
 obtain ⟨enc, henc⟩ : ∃ enc : Fin l.length → List Value, ∀ i, enc i = (xs.drop (i.val * size)).take size := ⟨_, fun _ => rfl⟩
 have hk : ∀ i, (enc i).length = size := fun i => by rw [henc, List.length_take, List.length_drop]; have := hin i; omega
 have hRe : ∀ i : Fin l.length, R (enc i) l[i] := fun i => by rw [henc]; exact hR i _ (List.getElem?_eq_getElem i.isLt)
 have hcf : CmpOk fun i j : Fin l.length => c (key l[i]) (key l[j]) := hc.by_ (f := fun i : Fin l.length => key l[i]) fun i j hij => by
  have hp := List.pairwise_iff_getElem.1 hnd
  have hz : (l.map key).length = l.length := List.length_map _
  by_cases h : i.val < j.val
  ·exact absurd (by simpa using hij) (hp i.val j.val (by rw [hz]; exact i.isLt) (by rw [hz]; exact j.isLt) h)
  ·by_cases h' : j.val < i.val
   ·exact absurd (by simpa using hij.symm) (hp j.val i.val (by rw [hz]; exact j.isLt) (by rw [hz]; exact i.isLt) h')
   ·exact Fin.ext (by omega)
 obtain ⟨d, hd, hdz⟩ : ∃ d : Array (Fin l.length), d.toList = List.finRange l.length ∧ d.size = l.length := ⟨(List.finRange l.length).toArray, rfl, by simp⟩
 have hflat : d.toList.flatMap enc = xs := by
  apply List.ext_getElem?
  intro j
  by_cases hj : j < l.length * size
  ·have k0 : 0 < size := by
    rcases Nat.eq_zero_or_pos size with h | h
    ·rw [h, Nat.mul_zero] at hj; omega
    ·exact h
   have hq : j / size < l.length := (Nat.div_lt_iff_lt_mul k0).2 hj
   have hg : d.toList[j / size]? = some ⟨j / size, hq⟩ := by rw [hd]; simp [hq]
   have h3 := drop_flat hk d.toList (j / size) _ hg
   have hr : j % size < size := Nat.mod_lt _ k0
   have e1 : j / size * size + j % size = j := Nat.div_add_mod' j size
   have h4 : (d.toList.flatMap enc)[j]? = (enc ⟨j / size, hq⟩)[j % size]? := by rw [← h3, List.getElem?_take_of_lt hr, List.getElem?_drop, e1]
   rw [h4, henc, List.getElem?_take_of_lt hr, List.getElem?_drop, e1]
  ·rw [List.getElem?_eq_none (by rw [flat_len hk, Array.length_toList, hdz]; omega), List.getElem?_eq_none (by omega)]
 have hF : (flatK enc size d).toList = xs := by rw [flatK_list hk, hflat]
 have hH : HoldsK enc size w b 0 d := by
  intro j hj
  have hj2 : j < xs.length := by rw [← hF]; simpa using hj
  refine ⟨?_, by simp [World.frozen?, hb]⟩
  have h3 : (cur.toList.take (l.length * size))[j]? = xs[j]? := by rw [htake]
  rw [List.getElem?_take_of_lt (by omega)] at h3
  simp only [World.cell?, hb, Nat.zero_add]
  simp only [Option.isSome_none, Bool.false_eq_true, if_false]
  rw [← Array.getElem?_toList, h3, ← hF, Array.getElem?_toList, getElem!_pos _ j hj, Array.getElem?_eq_getElem hj]
  rfl
 have hcmp : CmpLays P g cb enc size (fun i j : Fin l.length => c (key l[i]) (key l[j])) b 0 d.size w := fun m os dk _ x y =>
  hcall (enc x) (enc y) l[x] l[y] (List.getElem_mem _) (List.getElem_mem _) (hRe x) (hRe y) _ (grown_put (n := m) (os := os) (flatK enc size dk))
 have hsz : d.size < 4611686018427387904 := by rw [hdz]; exact hlen
 have hS := AnyQ.slices_SortFunc_total L size aE zE enc hk (fun i => h1 _ _ (hRe i)) _ hcf.swo g cb b 0 cap d w eg hcmp hH hbl hsz hcf.tot
 rw [hdz] at hS
 refine hS.mono ?_
 rintro e' w' ⟨rfl, n, os, rfl⟩
 generalize hts : d.toList.mergeSort (fun x y => !(ltOf fun i j : Fin l.length => c (key l[i]) (key l[j])) y x) = ts
 have hp : ts.Perm (List.finRange l.length) := by rw [← hts, ← hd]; exact List.mergeSort_perm _ _
 have htl : ts.length = l.length := by rw [hp.length_eq]; simp
 have hso : ts.Pairwise fun i j => c (key l[i]) (key l[j]) < 0 := by
  have hs := List.pairwise_mergeSort (le := fun x y => !(ltOf fun i j : Fin l.length => c (key l[i]) (key l[j])) y x) (fun x y z h k => by
   simp only [Bool.not_eq_true'] at h k ⊢
   exact hcf.swo.ntrans z y x k h) (fun x y => by
   cases h : ltOf (fun i j : Fin l.length => c (key l[i]) (key l[j])) y x with
   | false => rfl
   | true =>
    cases k : ltOf (fun i j : Fin l.length => c (key l[i]) (key l[j])) x y with
    | false => rfl
    | true =>
     have := hcf.swo.trans _ _ _ h k
     rw [hcf.swo.irrefl] at this
     cases this) d.toList
  rw [hts] at hs
  have hnd2 : ts.Nodup := hp.nodup_iff.2 (List.nodup_finRange _)
  refine (hs.and hnd2).imp fun {i j} h => ?_
  have h3 : ¬ c (key l[j]) (key l[i]) < 0 := by
   have := h.1
   simp only [Bool.not_eq_true'] at this
   exact of_decide_eq_false this
  by_cases e0 : c (key l[i]) (key l[j]) = 0
  ·exact absurd ((hcf.eq i j).1 e0) h.2
  ·by_cases e1 : 0 < c (key l[i]) (key l[j])
   ·exact absurd ((hc.anti _ _).1 e1) h3
   ·omega
 have hz : (flatK enc size ts.toArray).size = l.length * size := by rw [size_flatK]; simp [htl]
 have hzc : (flatK enc size ts.toArray).size ≤ cur.size := by rw [hz, hcur]; exact hle
 refine ⟨rfl, ts.map (fun i => l[i]), _, ?_, ?_, heap_put _ hb, by simp [putCells], fun i x hx => ?_, fun j hj => put_get _ _ hzc j (by rw [hz]; exact hj), grown_put _⟩
 ·have h3 := hp.map (fun i : Fin l.length => l[i])
  rwa [show (List.finRange l.length).map (fun i : Fin l.length => l[i]) = l from List.ext_getElem (by simp) (fun i h h' => by simp)] at h3
 ·exact List.pairwise_map.2 hso
 ·rw [List.getElem?_map] at hx
  cases hj : ts[i]? with
  | none => rw [hj] at hx; cases hx
  | some j =>
   rw [hj] at hx
   cases hx
   have h3 := take_put cur (flatK enc size ts.toArray) hzc
   rw [hz, flatK_list hk] at h3
   have hil : i < ts.length := (List.getElem?_eq_some_iff.1 hj).1
   have h4 : i * size + size ≤ l.length * size := by
    have := Nat.mul_le_mul_right size (show i + 1 ≤ l.length by omega)
    rw [Nat.add_mul, Nat.one_mul] at this
    exact this
   have h5 : (((putCells id 0 (flatK enc size ts.toArray) cur).toList).drop (i * size)).take size = ((ts.flatMap enc).drop (i * size)).take size := by
    rw [← h3, List.drop_take, List.take_take]
    congr 1
    omega
   rw [h5, drop_flat hk ts i j hj]
   exact hRe j
theorem sorted_one {α κ : Type} {c : κ → κ → Int} (hc : CmpOk c) (key : α → κ) {l l' : List α} (hp : l.Perm l') (h1 : l.Pairwise fun x y => c (key x) (key y) < 0) (h2 : l'.Pairwise fun x y => c (key x) (key y) < 0) : l = l' :=
 hp.eq_of_pairwise (fun a b _ _ h k => by
  have h3 := (hc.anti (key b) (key a)).2 h
  omega) h1 h2
theorem rel_flat {α : Type} {σ : Sg} {enc : α → List AV} {size : Nat} (hk : ∀ x, (enc x).length = size) : ∀ {l : List α} {ys : List Value}, ys.length = l.length * size → (∀ i x, l[i]? = some x → RelL σ ((ys.drop (i * size)).take size) (enc x)) → RelL σ ys (l.map enc).flatten
 | [], ys, hl, _ => by
  have : ys = [] := List.eq_nil_of_length_eq_zero (by simpa using hl)
  subst this
  exact .nil
 | x :: l, ys, hl, h => by
  have h0 := h 0 x rfl
  rw [Nat.zero_mul, List.drop_zero] at h0
  have hl2 : (ys.drop size).length = l.length * size := by rw [List.length_drop, hl, List.length_cons, Nat.add_mul]; omega
  have h1 := rel_flat hk (l := l) (ys := ys.drop size) hl2 fun i y hy => by
   have := h (i + 1) y (by simpa using hy)
   rw [List.drop_drop]
   rw [show size + i * size = (i + 1) * size by rw [Nat.add_mul]; omega]
   exact this
  have h2 := h0.append h1
  rw [List.take_append_drop] at h2
  simpa using h2
theorem flat_drop {α : Type} {enc : α → List AV} {size : Nat} (hk : ∀ x, (enc x).length = size) {l : List α} {T : List AV} {i : Nat} {x : α} (h : l[i]? = some x) : (((l.map enc).flatten ++ T).drop (i * size)).take size = enc x := by
 have e : (l.map enc).flatten = l.flatMap enc := rfl
 have hi := (List.getElem?_eq_some_iff.1 h).1
 have hlen := flat_len hk l
 have hle : i * size + size ≤ l.length * size := by
  have := Nat.mul_le_mul_right size (show i + 1 ≤ l.length by omega)
  rw [Nat.add_mul, Nat.one_mul] at this
  exact this
 rw [e, List.drop_append_of_le_length (by omega), List.take_append_of_le_length (by rw [List.length_drop]; omega)]
 exact drop_flat hk l i x h
def AV.clean : AV → Bool
 | .int _ _ | .bool _ | .str _ | .ro _ | .fn _ _ | .raw _ | .top => true
 | .lst .any _ _ => true
 | _ => false
theorem clean_unown {a : AV} (h : a.clean = true) : a.unown = a := by
 cases a <;> first | rfl | (rename_i t _ _; cases t <;> first | rfl | cases h) | cases h
theorem clean_tag {a : AV} (h : a.clean = true) (B : Nat → Option Nat) (v : Value) : TagB B v a := by
 cases a <;> first | trivial | cases h
theorem sort_ms {P : Program} {ρ : Ren} (L : SlLaysF0.n6 P ρ) {size : Nat} (hcb : callable P (ρ.f 6) = true) (aE : ∀ w, (isAgg (ρ.t 24)).run P w = .ok true w) (zE : ∀ w, (Go.sizeOf (ρ.t 24)).run P w = .ok size w)
  {α κ : Type} (enc : α → List AV) (hk : ∀ x, (enc x).length = size) (hcl : ∀ x, ∀ c ∈ enc x, c.clean = true) {c : κ → κ → Int} (hc : CmpOk c) (key : α → κ) {l l' : List α} (hnd : (l.map key).Nodup) (hlen : l.length < 4611686018427387904) (hp : l'.Perm l) (hs : l'.Pairwise fun x y => c (key x) (key y) < 0)
  (F : FuncId) (eg : ∀ args w, (callFunc F args).run P w = .ok (.enter F args) w)
  (hcall : ∀ σ cs ds x y, x ∈ l → y ∈ l → RelL σ cs (enc x) → RelL σ ds (enc y) → ∀ W, GW W → Calls P F #[.agg cs.toArray, .agg ds.toArray] W fun e w' => e = .returned (.int .i64 (c (key x) (key y))) ∧ ∃ q os', w' = grow (W.drewN q) os')
  (cap m : Nat) (hcap : l.length ≤ cap) (hz : ((l.map enc).flatten ++ List.replicate m AV.top).length = cap * size) :
  MS P (ρ.f 6) [(2000000, (l.map enc).flatten ++ List.replicate m AV.top)] [.sli 2000000 size l.length cap, .fn F []] [(2000000, (l'.map enc).flatten ++ List.replicate m AV.top)] (.tup []) := by
 refine ⟨hcb, fun σ w B vs hh hg hdom hinj hgl hat hr => ?_⟩
 obtain ⟨g, t, vs0, hB, hheap, hrel, htag, hfree⟩ := hat 2000000 _ (List.mem_singleton.2 rfl)
 have hheap := hheap.cells rfl
 obtain ⟨v1, v2, rfl⟩ : ∃ a b, vs = [a, b] := by
  have := hr.1
  rcases vs with _ | ⟨a, _ | ⟨b, _ | ⟨_, _⟩⟩⟩ <;> simp at this
  exact ⟨a, b, rfl⟩
 obtain ⟨_, g', hv1, hg'⟩ : TagB B v1 (.sli 2000000 size l.length cap) := hr.2 0 v1 _ rfl rfl
 have hgg := hg' g hB
 subst hgg
 subst hv1
 have hv2 : Rel1 σ v2 (.fn F []) := hr.2 1 v2 _ rfl rfl
 obtain ⟨us, hv2, hus⟩ := fn_open hv2
 have hus : us = [] := List.eq_nil_of_length_eq_zero hus.1
 subst hus hv2
 have hun : ∀ (l : List α), ((l.map enc).flatten ++ List.replicate m AV.top).map AV.unown = (l.map enc).flatten ++ List.replicate m AV.top := fun l => by
  rw [show ((l.map enc).flatten ++ List.replicate m AV.top).map AV.unown = ((l.map enc).flatten ++ List.replicate m AV.top).map id from List.map_congr_left fun a ha => ?_, List.map_id]
  rcases List.mem_append.1 ha with ha | ha
  ·obtain ⟨r, hr, har⟩ := List.mem_flatten.1 ha
   obtain ⟨x, _, rfl⟩ := List.mem_map.1 hr
   exact clean_unown (hcl x a har)
  ·rw [(List.mem_replicate.1 ha).2]; rfl
 rw [hun] at hrel
 have hsz : vs0.size = cap * size := by have := hrel.1; rw [hz] at this; simpa using this
 have hfl : (l.map enc).flatten.length = l.length * size := flat_len hk l
 refine (row_sort L (R := fun cs x => RelL σ cs (enc x)) aE zE hheap hcap hsz (fun i x hx => ?_) (fun cs x h => h.one) hc key hnd hlen F #[] eg (fun cs ds x y hx hy h1 h2 W hW => ?_)).mono ?_
 ·have h1 := (hrel.drop (i * size)).take size
  rw [flat_drop hk hx] at h1
  exact h1
 ·refine hcall σ cs ds x y hx hy h1 h2 W (hg.belowK (K := fun b => b = g) (fun b e => ?_) (grown_belowK hW rfl))
  rw [e]
  exact hgl 2000000 g hB
 rintro e' w' ⟨rfl, l2, cur', hp2, hs2, hb2, hz2, hR2, hrest, hgr⟩
 have hl2 : l2 = l' := sorted_one hc key (hp2.trans hp.symm) hs2 hs
 subst hl2
 have hll : l2.length = l.length := hp2.length_eq
 have hrel2 : RelL σ cur'.toList ((l2.map enc).flatten ++ List.replicate m AV.top) := by
  have hcz : cur'.toList.length = cap * size := by simpa [hsz] using hz2
  have hle : l2.length * size ≤ cap * size := Nat.mul_le_mul_right _ (by omega)
  have h1 : RelL σ (cur'.toList.take (l2.length * size)) (l2.map enc).flatten := rel_flat hk (by rw [List.length_take]; omega) fun i x hx => by
   have h2 := hR2 i x hx
   have hi := (List.getElem?_eq_some_iff.1 hx).1
   have hle : i * size + size ≤ l2.length * size := by
    have := Nat.mul_le_mul_right size (show i + 1 ≤ l2.length by omega)
    rw [Nat.add_mul, Nat.one_mul] at this
    exact this
   rw [List.drop_take, List.take_take, show min size (l2.length * size - i * size) = size by omega]
   exact h2
  have h3 : RelL σ (cur'.toList.drop (l2.length * size)) (List.replicate m AV.top) := by
   have hd := hrel.drop (l.length * size)
   rw [← hfl, List.drop_left] at hd
   refine ⟨by rw [← hd.1]; simp [hfl, hz2, hll], fun j v a hv ha => ?_⟩
   rw [List.getElem?_drop, Array.getElem?_toList, hrest _ (by rw [hll]; omega)] at hv
   refine hd.2 j v a ?_ ha
   rw [List.getElem?_drop, Array.getElem?_toList, hfl, ← hll]
   exact hv
  have h4 := h1.append h3
  rw [List.take_append_drop] at h4
  exact h4
 have hne : ∀ b o v, σ b o = some v → b ≠ g := by
  rintro b o v hv rfl
  rw [hfree o] at hv
  cases hv
 refine ⟨σ, .tuple #[], B, rfl, ⟨.refl σ, fun _ _ _ _ => rfl⟩, fun b o v hv => ?_, grown_belowK hgr ⟨2000000, hB⟩, fun id g' hB' => ?_, hinj, fun id cs hm => ?_, ⟨[], rfl, rfl, fun j u x hu => by simp at hu⟩, fun id g' hB' => .inl ⟨id, hB'⟩, fun id g' g'' h1 h2 => by rw [h1] at h2; exact Option.some.inj h2⟩
 ·have h1 := hh b o v hv
  have hlt := World.block_lt_of_cell? w _ h1
  exact (World.cell?_of_block (w := w) (a := ⟨b, o, none⟩) (hgr.block b hlt fun e => hne b o v hv (by cases e; rfl))).trans h1
 ·exact hdom id g' hB'
 ·rw [List.mem_singleton] at hm
  cases hm
  refine ⟨g, t, cur', hB, .mk rfl hb2, by rw [hun]; exact hrel2, fun j v a hv ha => clean_tag ?_ _ _, hfree⟩
  have ha := List.mem_of_getElem? ha
  rcases List.mem_append.1 ha with ha | ha
  ·obtain ⟨r, hr, har⟩ := List.mem_flatten.1 ha
   obtain ⟨x, _, rfl⟩ := List.mem_map.1 hr
   exact hcl x a har
  ·rw [(List.mem_replicate.1 ha).2]; rfl
end Go.Proofs.YtgidajjjpeboeaaGreatDoor
namespace Go.Proofs.YtgidajjjpeboeaaGreatDoor
open Go.RowKit
structure OId where
 k : ByteArray
 s : ByteArray
 n : ByteArray
deriving DecidableEq
structure CEnt where
 id : OId
 body : V
 ver : Int
structure Clu where
 has : List CEnt
 last : Int
 fails : List Int
 fuse : Int
 down : Bool
def Clu.find (c : Clu) (id : OId) : Option CEnt := c.has.find? fun e => decide (e.id = id)
def Clu.write (c : Clu) : Int × Clu :=
 if (c.down || decide (c.fuse = 0)) = true then (31, { c with down := true })
 else ((if (0 : Int) ∈ c.fails then 30 else 0), { c with fuse := (if 0 < c.fuse then c.fuse - 1 else c.fuse), fails := (c.fails.filter fun n => decide (0 < n)).map fun n => n - 1 })
def putE (l : List CEnt) (e : CEnt) : List CEnt := if l.any (fun x => decide (x.id = e.id)) = true then l.map (fun x => if x.id = e.id then e else x) else l ++ [e]
def Clu.put (c : Clu) (id : OId) (v : V) : Clu := { c with last := c.last + 1, has := putE c.has ⟨id, v, c.last + 1⟩ }
def Clu.create (c : Clu) (wr : Int) (id : OId) (v : V) : Int × Clu :=
 if wr ≠ 0 then (wr, c) else if c.write.1 ≠ 0 then c.write else if (c.find id).isSome = true then (4, c.write.2) else (0, c.write.2.put id v)
def Clu.patch (c : Clu) (wr : Int) (id : OId) (n : Int) (v : V) : Int × Clu :=
 if wr ≠ 0 then (wr, c) else if c.write.1 ≠ 0 then c.write else match c.find id with
  | none => (3, c.write.2)
  | some e => if e.ver ≠ n then (32, c.write.2) else (0, c.write.2.put id v)
def Clu.delete (c : Clu) (id : OId) : Int × Clu :=
 if c.write.1 ≠ 0 then c.write else match c.find id with
  | none => (3, c.write.2)
  | some _ => (0, { c.write.2 with has := c.has.filter fun e => decide (e.id ≠ id) })
def Clu.edit (c : Clu) (wr : Int) (id : OId) (v : V) : Int × Clu :=
 if wr ≠ 0 then (wr, c) else if v.kind = 0 then (0, { c with has := c.has.filter fun e => decide (e.id ≠ id) }) else (0, c.put id v)
def Clu.new : Clu := ⟨[], 0, [], -1, false⟩
theorem write_has (c : Clu) : c.write.2.has = c.has ∧ c.write.2.last = c.last := by unfold Clu.write; split <;> exact ⟨rfl, rfl⟩
theorem find_none {c : Clu} {id : OId} : c.find id = none ↔ ∀ e ∈ c.has, e.id ≠ id := by
 unfold Clu.find
 rw [List.find?_eq_none]
 simp
def CQ (f0 : Fr) (s0 : St) : Exit → Fr → St → Prop
 | .normal => fun f s => Weak f s f0 s0
 | _ => fun _ _ => False
theorem AK.cut {P : Program} {E : Env} {Q : Exit → Fr → St → Prop} {k : List AItem} {fr : Fr} {st : St} {a : ACode} (f0 : Fr) (s0 : St) (h1 : AK P E (CQ f0 s0) [.c a] fr st) (h2 : AK P E Q k f0 s0) : AK P E Q (.c a :: k) fr st := by
 intro hd mu c G ac w hc hd2 hC
 refine wp_mono (h1 hd mu c G ac w hc hd2 hC) fun e a2 w2 ⟨G3, f, s, hC3, hQ⟩ => ?_
 cases e with
 | normal =>
  obtain ⟨G4, hC4⟩ := (show Weak f s f0 s0 from hQ) E G3 a2 w2 hC3
  exact ⟨G4, f0, s0, hC4, h2⟩
 | exit id => exact (show False from hQ).elim
 | goto l => exact (show False from hQ).elim
 | ret => exact (show False from hQ).elim
 | panic ch => exact (show False from hQ).elim
 | outgrown => exact (show False from hQ).elim
theorem AK.cutEnd {P : Program} {E : Env} {fr : Fr} {st : St} {f0 : Fr} {s0 : St} (h : Weak fr st f0 s0) : AK P E (CQ f0 s0) [] fr st := h
def rowsJ (l : List Int) : List (List AV) := l.map fun n => [.int .i64 n]
theorem rowsJ_len (l : List Int) : (rowsJ l).length = l.length := List.length_map _
theorem rowsJ_at {l : List Int} {k : Nat} {n : Int} (h : l[k]? = some n) : (rowsJ l)[k]? = some [.int .i64 n] := by simp [rowsJ, h]
theorem rowsJ_snoc (l : List Int) (n : Int) : rowsJ (l ++ [n]) = rowsJ l ++ [[.int .i64 n]] := by unfold rowsJ; rw [List.map_append]; rfl
def idxJ (n : Int) : List Int → Nat → Int
 | [], _ => -1
 | x :: l, k => if x = n then k else idxJ n l (k + 1)
theorem idxJ_mem (n : Int) : ∀ (l : List Int) (k : Nat), (0 ≤ idxJ n l k) ↔ n ∈ l
 | [], k => by simp [idxJ]
 | x :: l, k => by
  unfold idxJ
  by_cases h : x = n
  ·rw [if_pos h]
   simp [h]
  ·rw [if_neg h, idxJ_mem n l (k + 1)]
   simp only [List.mem_cons]
   exact ⟨.inr, fun h2 => h2.resolve_left (fun e => h e.symm)⟩
theorem idxJ_drop {n : Int} {l : List Int} {k : Nat} {x : Int} (h : l[k]? = some x) : idxJ n (l.drop k) k = if x = n then (k : Int) else idxJ n (l.drop (k + 1)) (k + 1) := by
 obtain ⟨hk, e⟩ := List.getElem?_eq_some_iff.1 h
 rw [List.drop_eq_getElem_cons hk, e]
 rfl
theorem index_j (n : Int) (l : List Int) (hl : l.length ≤ 1000000) : AC Tryz.prog 124 [.lst .any 1 (rowsJ l), .int .i64 n] (.int .i64 (idxJ n l 0)) := by
 refine kE Tryz.func124 a_slices_Index_int_ok a_slices_Index_int_cb fun E hE => ?_
 refine kW ?_
 refine AK.loopI (fun k : Nat => (frOf [(0, .lst .any 1 (rowsJ l)), (1, .int .i64 n), (7, .int .i64 (rowsJ l).length), (8, .int .i64 k)], ⟨boxOf [], fun _ => 0⟩)) (fun k => k ≤ l.length ∧ idxJ n l 0 = idxJ n (l.drop k) k) (fun k => l.length - k) 0 ⟨Nat.zero_le _, rfl⟩ (Weak.intro ⟨kI, kI, kI, kI, trivial⟩ trivial rfl rfl) fun k hk => ?_
 obtain ⟨hk, hix⟩ := hk
 refine kW ?_
 refine kC (fun hb => ?_) fun hb => ?_
 ·have hlt : k < l.length := by simpa [rowsJ_len] using hb
  obtain ⟨x, hg⟩ : ∃ x, l[k]? = some x := ⟨_, List.getElem?_eq_getElem hlt⟩
  rw [idxJ_drop hg] at hix
  refine kW ?_
  refine kP [.c [.int .i64 x]] ?_ ?_
  ·((repeat' apply And.intro) <;> first | exact kD | (intro hgd; refine ⟨?_, kG⟩; (repeat' apply And.intro) <;> first | exact kD | skip) | skip)
   all_goals exact rowsJ_at hg
  refine kW ?_
  refine kC (fun hb => ?_) fun hb => ?_
  ·have hx : x = n := ((by simpa using hb : n = x)).symm
   rw [if_pos hx] at hix
   refine kW ?_
   refine AK.ret ⟨_, rfl, ?_⟩
   rw [hix]
   rfl
  ·have hx : x ≠ n := fun h => ((by simpa using hb : ¬ n = x)) h.symm
   rw [if_neg hx] at hix
   refine kW ?_
   exact AK.lp ⟨k + 1, ⟨by omega, hix⟩, Weak.intro ⟨kI, kI, kI, kU, trivial⟩ trivial rfl rfl, by omega⟩
 ·have hlt : k = l.length := by
   have : l.length ≤ k := by simpa [rowsJ_len] using hb
   omega
  subst hlt
  rw [List.drop_length] at hix
  refine AK.exit rfl ?_
  refine kW ?_
  refine AK.ret ⟨_, rfl, ?_⟩
  rw [hix]
  rfl
theorem contains_j (n : Int) (l : List Int) (hl : l.length ≤ 1000000) : AC Tryz.prog 79 [.lst .any 1 (rowsJ l), .int .i64 n] (.bool (decide (n ∈ l))) := by
 have hi := index_j n l hl
 refine kE Tryz.func79 a_slices_Contains_int_ok a_slices_Contains_int_cb fun E hE => ?_
 refine kW ?_
 refine kQ [.v (.int .i64 (idxJ n l 0))] ?_
 refine kW ?_
 refine AK.ret ⟨_, rfl, ?_⟩
 show AV.bool (decide (idxJ n l 0 ≥ 0)) = _
 congr 1
 exact decide_eq_decide.2 (idxJ_mem n l 0)
def leftJ (l : List Int) : List Int := (l.filter fun n => decide (0 < n)).map fun n => n - 1
theorem leftJ_take {l : List Int} {k : Nat} {n : Int} (h : l[k]? = some n) : leftJ (l.take (k + 1)) = leftJ (l.take k) ++ if 0 < n then [n - 1] else [] := by
 unfold leftJ
 rw [List.take_add_one, h]
 simp only [Option.toList]
 rw [List.filter_append, List.map_append]
 congr 1
 by_cases hn : 0 < n
 ·rw [if_pos hn, List.filter_cons_of_pos (by simpa using hn)]
  rfl
 ·rw [if_neg hn, List.filter_cons_of_neg (by simpa using hn)]
  rfl
theorem leftJ_len (l : List Int) : (leftJ l).length ≤ l.length := by
 unfold leftJ
 rw [List.length_map]
 exact List.length_filter_le _ _
structure Ob where
 k : ByteArray
 s : ByteArray
 n : ByteArray
 v : V
abbrev obC (o : Ob) : List AV := .str o.k :: .str o.s :: .str o.n :: vC o.v
def rowsO (l : List Ob) : List (List AV) := l.map fun o => obC o
theorem rowsO_len (l : List Ob) : (rowsO l).length = l.length := List.length_map _
theorem rowsO_at {l : List Ob} {k : Nat} {o : Ob} (h : l[k]? = some o) : (rowsO l)[k]? = some (obC o) := by simp [rowsO, h]
theorem rowsO_snoc (l : List Ob) (o : Ob) : rowsO (l ++ [o]) = rowsO l ++ [obC o] := by simp [rowsO]
end Go.Proofs.YtgidajjjpeboeaaGreatDoor
