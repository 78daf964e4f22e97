/-
  The texts that the claim wants, one behind the other: part 39.
-/
import Derived.Test.YtgidajjjpeboeaaGreatDoorS38
import Derived.Sort.OwnSorted
import Derived.Lib.OwnBridge
import Derived.Test.YtgidajjjpeboeaaGreatDoorChecked
import Derived.KernelRfl
set_option linter.unusedSimpArgs false
set_option linter.unusedVariables false
namespace Go.Proofs.YtgidajjjpeboeaaGreatDoor
open Go.RowKit Go.Sort Go.Lib
theorem rowsT_strs (l : List ByteArray) : (rowsT l).flatten = l.map AV.str := by
 induction l with
 | nil => rfl
 | cons x l ih => simp [rowsT] at ih ⊢; exact ih
theorem rowsT_snoc (l : List ByteArray) (s : ByteArray) : rowsT (l ++ [s]) = rowsT l ++ [[.str s]] := by simp [rowsT]
theorem map_rowsT {g : AV → AV} (h1 : ∀ s, g (.str s) = .str s) (h2 : g .top = .top) (l : List ByteArray) (m : Nat) : ((rowsT l).flatten ++ List.replicate m AV.top).map g = (rowsT l).flatten ++ List.replicate m AV.top := by
 rw [List.map_append, List.map_replicate, h2, rowsT_strs, List.map_map]
 congr 1
 exact List.map_congr_left fun s _ => h1 s
theorem all_rowsT {g : AV → Bool} (h1 : ∀ s, g (.str s) = true) (h2 : g .top = true) (l : List ByteArray) (m : Nat) : ((rowsT l).flatten ++ List.replicate m AV.top).all g = true := by
 rw [List.all_eq_true]
 intro c hc
 rcases List.mem_append.1 hc with hc | hc
 ·rw [rowsT_strs] at hc
  obtain ⟨s, _, rfl⟩ := List.mem_map.1 hc
  exact h1 s
 ·rw [(List.mem_replicate.1 hc).2]
  exact h2
theorem rel_strs {σ : Sg} : ∀ {l : List ByteArray} {us : List Value}, RelL σ us (l.map AV.str) → us = l.map Value.string
 | [], us, h => List.eq_nil_of_length_eq_zero (by simpa using h.1)
 | s :: l, us, h => by
  rcases us with _ | ⟨u, us⟩
  ·have := h.1
   simp at this
  ·have h1 : Rel1 σ u (.str s) := h.2 0 u _ rfl rfl
   cases h1
   have h2 : RelL σ us (l.map AV.str) := ⟨by simpa using h.1, fun j v a hv ha => h.2 (j + 1) v a (by simpa using hv) (by simpa using ha)⟩
   rw [rel_strs h2]
   rfl
theorem enc_strs (l : List ByteArray) : (l.map l8).map encStr = l.map Value.string := Lib.map_encStr l
theorem enc_b8 (ts : List (List UInt8)) : ts.map encStr = (ts.map b8).map Value.string := by rw [List.map_map]; rfl
theorem putc_get (cur : Array Value) (ts : List (List UInt8)) (j : Nat) (hj : ts.length ≤ j) : (putCells encStr 0 ts.toArray cur)[j]? = cur[j]? := by
 by_cases h1 : j < cur.size
 ·simp [putCells, h1, show ¬ j < ts.length by omega]
 ·rw [Array.getElem?_eq_none (by simp [putCells]; omega), Array.getElem?_eq_none (by omega)]
theorem sortT_ms (l : List ByteArray) (hlen : l.length ≤ 1000000) (cap m : Nat) (hcap : l.length ≤ cap) (hz : ((rowsT l).flatten ++ List.replicate m AV.top).length = cap * 1) :
  MS Tryz.prog 48 [(2000000, (rowsT l).flatten ++ List.replicate m AV.top)] [.sli 2000000 1 l.length cap] [(2000000, (rowsT (sortS l)).flatten ++ List.replicate m AV.top)] (.tup []) := by
 refine ⟨by kernel_rfl, fun σ w B vs hh hg hdom hinj hgl hat hr => ?_⟩
 obtain ⟨g, t, vs0, hB, hheap, hrel, htag, hfree⟩ := hat 2000000 _ (List.mem_singleton.2 rfl)
 have hheap := hheap.cells rfl
 obtain ⟨v1, rfl⟩ := List.length_eq_one_iff.1 hr.1
 obtain ⟨_, g', hv1, hg'⟩ : TagB B v1 (.sli 2000000 1 l.length cap) := hr.2 0 v1 _ rfl rfl
 have hgg := hg' g hB
 subst hgg
 subst hv1
 rw [map_rowsT (fun _ => rfl) rfl] at hrel
 have hsz : vs0.size = cap := by have := hrel.1; rw [hz] at this; simpa using this
 have hfl : (rowsT l).flatten.length = l.length := by rw [rowsT_strs, List.length_map]
 have ht := hrel.take l.length
 rw [← hfl, List.take_left, hfl, rowsT_strs] at ht
 have hcur := rel_strs ht
 rw [← enc_strs] at hcur
 have hl8 : (l.map l8).length = l.length := List.length_map _
 have hH := holds_of_block (ss := l.map l8) hheap (by rw [hl8]; exact hcur)
 have hgl2 : g < w.heap.size := (Array.getElem?_eq_some_iff.1 hheap).1
 have hS := Tryz.slices_Sort_string g 0 cap (l.map l8) w hH hgl2 (by rw [hl8]; omega)
 rw [hl8] at hS
 refine hS.mono ?_
 rintro e' w' ⟨rfl, n, os, rfl⟩
 have hb2 := heap_sorted (os := os) (n := n) (srt8 (l.map l8)).toArray hheap
 have hgr : w.grownBy (grow (putRow encStr (Sort.ahead w n) g 0 (srt8 (l.map l8)).toArray) os) (some g) := grownBy_sorted _
 have hsl : (srt8 (l.map l8)).length = l.length := by unfold srt8; rw [List.length_mergeSort, hl8]
 have hrel2 : RelL σ (putCells encStr 0 (srt8 (l.map l8)).toArray vs0).toList ((rowsT (sortS l)).flatten ++ List.replicate m AV.top) := by
  have h1 : (putCells encStr 0 (srt8 (l.map l8)).toArray vs0).toList.take l.length = (sortS l).map Value.string := by
   have := take_putCells vs0 (srt8 (l.map l8)) (by omega)
   rw [hsl] at this
   rw [this, enc_b8]
   rfl
  have h3 : RelL σ ((putCells encStr 0 (srt8 (l.map l8)).toArray vs0).toList.drop l.length) (List.replicate m AV.top) := by
   have hd := hrel.drop l.length
   rw [← hfl, List.drop_left] at hd
   refine ⟨by rw [← hd.1]; simp [hfl, putCells], fun j v a hv ha => ?_⟩
   rw [List.getElem?_drop, Array.getElem?_toList, putc_get _ _ _ (by rw [hsl]; omega)] at hv
   refine hd.2 j v a ?_ ha
   rw [List.getElem?_drop, Array.getElem?_toList, hfl]
   exact hv
  have h4 := (rowsT_rel σ (sortS l)).append h3
  rw [← h1, List.take_append_drop] at h4
  exact h4
 have hne : ∀ b o v, σ b o = some v → b ≠ g := by
  rintro b o v hv rfl
  rw [hfree o] at hv
  cases hv
 refine ⟨σ, .tuple #[], B, rfl, ⟨.refl σ, fun _ _ _ _ => rfl⟩, fun b o v hv => ?_, grown_belowK hgr ⟨2000000, hB⟩, fun id g' hB' => ?_, hinj, fun id cs hm => ?_, ⟨[], rfl, rfl, fun j u x hu => by simp at hu⟩, fun id g' hB' => .inl ⟨id, hB'⟩, fun id g' g'' h1 h2 => by rw [h1] at h2; exact Option.some.inj h2⟩
 ·have h1 := hh b o v hv
  have hlt := World.block_lt_of_cell? w _ h1
  exact (World.cell?_of_block (w := w) (a := ⟨b, o, none⟩) (hgr.block b hlt fun e => hne b o v hv (by cases e; rfl))).trans h1
 ·exact hdom id g' hB'
 ·rw [List.mem_singleton] at hm
  cases hm
  refine ⟨g, t, _, hB, .mk rfl hb2, by rw [map_rowsT (fun _ => rfl) rfl]; exact hrel2, fun j v a hv ha => clean_tag ?_ _ _, hfree⟩
  have ha := List.mem_of_getElem? ha
  exact List.all_eq_true.1 (all_rowsT (g := AV.clean) (fun _ => rfl) rfl (sortS l) m) a ha
theorem sortT_mr (l : List ByteArray) (hlen : l.length ≤ 1000000) (cap m : Nat) (hcap : l.length ≤ cap) (hz : ((rowsT l).flatten ++ List.replicate m AV.top).length = cap * 1) :
  MS Tryz.prog 48 [(1000001, (rowsT l).flatten ++ List.replicate m AV.top)] [.sli 1000001 1 l.length cap] [(1000001, (rowsT (sortS l)).flatten ++ List.replicate m AV.top)] (.tup []) := by
 have h := (sortT_ms l hlen cap m hcap hz).ren rhoO rhoO_inj rhoO_mp
 unfold renS at h
 simp only [List.map_cons, List.map_nil, map_rowsT (g := AV.ren rhoO) (fun _ => rfl) rfl] at h
 exact h
theorem compT_mr (l : List ByteArray) (h0 : 0 < l.length) (hlen : l.length ≤ 1000000) : MR Tryz.prog 49 1 (rowsT l) [] (rowsT ((Lib.compact (l.map l8)).map b8)) := by
 refine ⟨by kernel_rfl, fun σ w g cap vs hh hF hr hg => ?_⟩
 obtain rfl : vs = [] := List.eq_nil_of_length_eq_zero hr.1
 obtain ⟨e, cur, hb, hsz, hcap, hl, hrel, hone, hfree⟩ := hF
 rw [Nat.mul_one] at hsz
 rw [rowsT_len] at hcap
 rw [rowsT_len, Nat.mul_one, rowsT_strs] at hrel
 have hcur := rel_strs hrel
 rw [← enc_strs] at hcur
 have hl8 : (l.map l8).length = l.length := List.length_map _
 have hH := holds_of_block (ss := l.map l8) hb (by rw [hl8]; exact hcur)
 have hC := Tryz.slices_Compact_string g 0 cap (l.map l8) w hH (by rw [hl8]; omega) (by rw [hl8]; exact hcap)
 rw [hl8] at hC
 have hcl := compact_len (l.map l8)
 rw [hl8] at hcl
 rw [rowsT_len]
 refine hC.mono ?_
 rintro e' w' ⟨rfl, q, rfl⟩
 obtain ⟨ts, hts⟩ : ∃ ts, ts = Lib.compact (l.map l8) ++ List.replicate (l.length - (Lib.compact (l.map l8)).length) ([] : List UInt8) := ⟨_, rfl⟩
 have htl : ts.length = l.length := by rw [hts, List.length_append, List.length_replicate]; omega
 rw [← hts]
 have hb2 : (putRow encStr (Sort.ahead w q) g 0 ts.toArray).heap[g]? = some (.cells (putCells encStr 0 ts.toArray cur) e (0, 0)) := by
  have := heap_sorted (os := #[]) (n := q) ts.toArray hb
  rwa [show ∀ W : World, grow W #[] = W from fun W => by unfold grow; simp] at this
 have hgr : w.grownBy (putRow encStr (Sort.ahead w q) g 0 ts.toArray) (some g) := by
  have := grownBy_sorted (w := w) (g := g) (n := q) (os := #[]) ts.toArray
  rwa [show ∀ W : World, grow W #[] = W from fun W => by unfold grow; simp] at this
 have hne : ∀ b o v, σ b o = some v → b ≠ g := by
  rintro b o v hv rfl
  rw [hfree o] at hv
  cases hv
 have hput := take_putCells cur ts (by omega)
 refine ⟨σ, g, cap, by rw [rowsT_len, List.length_map], .refl _ _, fun b o v hv => ?_, ⟨hgr.os, hgr.tape, hgr.output, hgr.size, fun k hk hn => hgr.block k hk fun e => hn (by cases e; rfl)⟩, .inl rfl, e, _, hb2, by simp [putCells, hsz], by rw [rowsT_len, List.length_map]; omega, fun c hc => ?_, ?_, fun u hu => ?_, hfree⟩
 ·have h1 := hh b o v hv
  have hlt := World.block_lt_of_cell? w _ h1
  exact (World.cell?_of_block (w := w) (a := ⟨b, o, none⟩) (hgr.block b hlt fun e => hne b o v hv (by cases e; rfl))).trans h1
 ·exact ((rowsT_ok _).2 c hc).1
 ·have h1 : (putCells encStr 0 ts.toArray cur).toList.take (Lib.compact (l.map l8)).length = ((Lib.compact (l.map l8)).map b8).map Value.string := by
   have h2 : ((putCells encStr 0 ts.toArray cur).toList.take ts.length).take (Lib.compact (l.map l8)).length = (ts.map encStr).take (Lib.compact (l.map l8)).length := by rw [hput]
   rw [List.take_take, Nat.min_eq_left (by omega)] at h2
   rw [h2, hts, List.map_append, List.take_left' (by simp), enc_b8]
  rw [rowsT_len, List.length_map, Nat.mul_one, h1]
  exact rowsT_rel σ _
 ·obtain ⟨j, hj, e⟩ := List.getElem_of_mem hu
  have hu : (putCells encStr 0 ts.toArray cur).toList[j]? = some u := by rw [List.getElem?_eq_getElem hj, e]
  by_cases hjt : j < ts.length
  ·have h2 : ((putCells encStr 0 ts.toArray cur).toList.take ts.length)[j]? = some u := by rw [List.getElem?_take_of_lt hjt]; exact hu
   rw [hput, List.getElem?_map] at h2
   cases hx : ts[j]? with
   | none => rw [hx] at h2; cases h2
   | some x => rw [hx] at h2; cases h2; rfl
  ·rw [Array.getElem?_toList, putc_get _ _ _ (by omega)] at hu
   exact hone u (by rw [← Array.getElem?_toList] at hu; exact List.mem_of_getElem? hu)
theorem lst_none {σ : Sg} {v : Value} {e : Nat} (h : Rel1 σ v (.lst .any e [])) : ∃ A cap, v = .slice A 0 cap := by
 cases h with
 | lst t esz l A n cap b o f hn hlen hA hsz hσ hr ht =>
  subst hn
  exact ⟨A, cap, rfl⟩
theorem sortTNil_a : AC Tryz.prog 48 [.lst .any 1 []] (.tup []) := by
 refine ⟨by kernel_rfl, fun σ w vs hh hr hg => ?_⟩
 obtain ⟨v1, rfl⟩ := List.length_eq_one_iff.1 hr.1
 have h1 : Rel1 σ v1 (.lst .any 1 []) := hr.2 0 v1 _ rfl rfl
 obtain ⟨A, cap, rfl⟩ := lst_none h1
 refine (Tryz.slices_Sort_string_none A cap w).mono ?_
 rintro e w' ⟨rfl, rfl⟩
 exact ⟨σ, .tuple #[], rfl, .refl _ _, hh, .refl _ _, [], rfl, rfl, fun j u x hu => by simp at hu⟩
theorem compTNil_a : AC Tryz.prog 49 [.lst .any 1 []] (.lst .any 1 []) := by
 refine ⟨by kernel_rfl, fun σ w vs hh hr hg => ?_⟩
 obtain ⟨v1, rfl⟩ := List.length_eq_one_iff.1 hr.1
 have h1 : Rel1 σ v1 (.lst .any 1 []) := hr.2 0 v1 _ rfl rfl
 have h2 := hr.2 0 v1 _ rfl rfl
 obtain ⟨A, cap, rfl⟩ := lst_none h1
 refine (Tryz.slices_Compact_string_empty A cap w).mono ?_
 rintro e w' ⟨rfl, rfl⟩
 exact ⟨σ, _, rfl, .refl _ _, hh, .refl _ _, h1⟩
end Go.Proofs.YtgidajjjpeboeaaGreatDoor
namespace Go.Proofs.YtgidajjjpeboeaaGreatDoor
open Go.RowKit
noncomputable def relOf (o : Ob) : Option ByteArray := (ownP o.k o.s o.n).map (·.1)
noncomputable def relsOf (O : List Ob) : List ByteArray := O.filterMap relOf
theorem relsOf_take {O : List Ob} {k : Nat} {o : Ob} (h : O[k]? = some o) : relsOf (O.take (k + 1)) = relsOf (O.take k) ++ (relOf o).toList := by
 unfold relsOf
 rw [List.take_add_one, h, List.filterMap_append]
 congr 1
 all_goals (cases hr : relOf o <;> simp [hr, Option.toList])
theorem relsOf_len (O : List Ob) : (relsOf O).length ≤ O.length := List.length_filterMap_le _ _
theorem ownIs_rel {s : ByteArray} {o : Ob} : ownIs s o = true ↔ relOf o = some s := by
 unfold ownIs relOf
 cases ownP o.k o.s o.n with
 | none => simp
 | some p => simp
theorem relsOf_mem {s : ByteArray} {O : List Ob} : s ∈ relsOf O ↔ ∃ o ∈ O, ownIs s o = true := by
 unfold relsOf
 rw [List.mem_filterMap]
 exact ⟨fun ⟨o, h1, h2⟩ => ⟨o, h1, ownIs_rel.2 h2⟩, fun ⟨o, h1, h2⟩ => ⟨o, h1, ownIs_rel.1 h2⟩⟩
theorem recsOf_pos {s : ByteArray} {O : List Ob} (h : s ∈ relsOf O) : 0 < (recsOf s O).length := by
 obtain ⟨o, h1, h2⟩ := relsOf_mem.1 h
 unfold recsOf
 rw [List.length_map]
 exact List.length_pos_of_mem (List.mem_filter.2 ⟨h1, h2⟩)
theorem recsOf_none {s : ByteArray} {O : List Ob} (h : s ∉ relsOf O) : recsOf s O = [] ∧ allOk s O = true := by
 have hf : ∀ o ∈ O, ownIs s o = false := fun o ho => by
  cases hx : ownIs s o with
  | false => rfl
  | true => exact absurd (relsOf_mem.2 ⟨o, ho, hx⟩) h
 constructor
 ·unfold recsOf
  rw [List.filter_eq_nil_iff.2 fun o ho => by rw [hf o ho]; simp]
  rfl
 ·unfold allOk
  rw [List.all_eq_true]
  intro o ho
  rw [hf o ho]
  rfl
theorem recsOf_cons (s : ByteArray) (o : Ob) (O : List Ob) : (recsOf s (o :: O)).length = (if ownIs s o = true then 1 else 0) + (recsOf s O).length := by
 unfold recsOf
 rw [List.length_map, List.length_map]
 by_cases h : ownIs s o = true
 ·rw [List.filter_cons_of_pos (p := fun o => ownIs s o) h, if_pos h, List.length_cons]
  omega
 ·rw [List.filter_cons_of_neg (p := fun o => ownIs s o) h, if_neg h]
  omega
noncomputable def sumR (N : List ByteArray) (O : List Ob) : Nat := (N.map fun s => (recsOf s O).length).sum
theorem sumR_zero (N : List ByteArray) : sumR N [] = 0 := by
 induction N with
 | nil => rfl
 | cons s N ih =>
  show (recsOf s []).length + sumR N [] = 0
  rw [ih]
  rfl
theorem sum_one (N : List ByteArray) (hn : N.Nodup) (o : Ob) (h : ∀ s, relOf o = some s → s ∈ N) : (N.map fun s => if ownIs s o = true then 1 else 0).sum = (relOf o).toList.length := by
 induction N with
 | nil =>
  cases hr : relOf o with
  | none => rfl
  | some s => cases h s hr
 | cons t N ih =>
  rw [List.nodup_cons] at hn
  rw [List.map_cons, List.sum_cons]
  by_cases ht : ownIs t o = true
  ·rw [if_pos ht]
   have hr := ownIs_rel.1 ht
   have hz : ∀ N : List ByteArray, t ∉ N → (N.map fun s => if ownIs s o = true then 1 else 0).sum = 0 := by
    intro N
    induction N with
    | nil => intro _; rfl
    | cons u N ih2 =>
     intro hu
     rw [List.map_cons, List.sum_cons, ih2 fun h => hu (by simp [h]), if_neg]
     intro h2
     have := ownIs_rel.1 h2
     rw [hr] at this
     injection this with this
     exact hu (by simp [this])
   rw [hz N hn.1, hr]
   rfl
  ·rw [if_neg ht, ih hn.2 fun s hs => ?_]
   ·omega
   ·rcases List.mem_cons.1 (h s hs) with rfl | h2
    ·exact absurd (ownIs_rel.2 hs) ht
    ·exact h2
theorem sumR_all {N : List ByteArray} (hn : N.Nodup) : ∀ {O : List Ob}, (∀ s ∈ relsOf O, s ∈ N) → sumR N O = (relsOf O).length
 | [], _ => sumR_zero N
 | o :: O, h => by
  have ih := sumR_all hn (O := O) fun s hs => h s (by
   obtain ⟨o', h1, h2⟩ := relsOf_mem.1 hs
   exact relsOf_mem.2 ⟨o', by simp [h1], h2⟩)
  have h1 := sum_one N hn o fun s hs => h s (relsOf_mem.2 ⟨o, by simp, ownIs_rel.2 hs⟩)
  have e : sumR N (o :: O) = (N.map fun s => if ownIs s o = true then 1 else 0).sum + sumR N O := by
   unfold sumR
   clear h1 ih h hn
   induction N with
   | nil => rfl
   | cons t N ih =>
    rw [List.map_cons, List.map_cons, List.map_cons, List.sum_cons, List.sum_cons, List.sum_cons, ih, recsOf_cons]
    omega
  rw [e, h1, ih]
  show _ = ((o :: O).filterMap relOf).length
  rw [List.filterMap_cons]
  cases hr : relOf o with
  | none =>
   show 0 + _ = _
   rw [Nat.zero_add]
   rfl
  | some s =>
   show 1 + _ = _
   rw [List.length_cons]
   show 1 + (O.filterMap relOf).length = _
   omega
noncomputable instance memT (s : ByteArray) (d : List ByteArray) : Decidable (s ∈ d) := Classical.propDecidable _
noncomputable def insK (d : List ByteArray) (s : ByteArray) : List ByteArray := if s ∈ d then d else d ++ [s]
theorem insK_mem {d : List ByteArray} {s x : ByteArray} : x ∈ insK d s ↔ x ∈ d ∨ x = s := by
 unfold insK
 split
 ·rename_i h
  exact ⟨.inl, fun k => k.elim id fun e => e ▸ h⟩
 ·simp
theorem insK_nd {d : List ByteArray} (h : d.Nodup) (s : ByteArray) : (insK d s).Nodup := by
 unfold insK
 split
 ·exact h
 ·rename_i hs
  rw [List.nodup_append]
  refine ⟨h, by simp, fun a ha b hb e => hs ?_⟩
  rw [← List.mem_singleton.1 hb, ← e]
  exact ha
noncomputable def keysL (l : List ByteArray) : List ByteArray := l.foldl insK []
theorem keysL_snoc (l : List ByteArray) (s : ByteArray) : keysL (l ++ [s]) = insK (keysL l) s := by unfold keysL; rw [List.foldl_append]; rfl
theorem keysL_spec (l : List ByteArray) : (keysL l).Nodup ∧ ∀ x, x ∈ keysL l ↔ x ∈ l := by
 have : ∀ (l d : List ByteArray), d.Nodup → (l.foldl insK d).Nodup ∧ ∀ x, x ∈ l.foldl insK d ↔ x ∈ d ∨ x ∈ l := by
  intro l
  induction l with
  | nil => intro d hd; exact ⟨hd, fun x => by simp⟩
  | cons s l ih =>
   intro d hd
   obtain ⟨h1, h2⟩ := ih (insK d s) (insK_nd hd s)
   refine ⟨h1, fun x => ?_⟩
   rw [List.foldl_cons, h2, insK_mem, List.mem_cons]
   constructor
   ·rintro ((h | h) | h)
    ·exact .inl h
    ·exact .inr (.inl h)
    ·exact .inr (.inr h)
   ·rintro (h | h | h)
    ·exact .inl (.inl h)
    ·exact .inl (.inr h)
    ·exact .inr h
 obtain ⟨h1, h2⟩ := this l [] .nil
 exact ⟨h1, fun x => by rw [show keysL l = l.foldl insK [] from rfl, h2]; simp⟩
theorem keysL_len (l : List ByteArray) : (keysL l).length = (nameS l).length := by
 obtain ⟨h1, h2⟩ := keysL_spec l
 have hp : (keysL l).Perm (nameS l) := by
  rw [List.perm_ext_iff_of_nodup h1 (nameS_nd l)]
  intro x
  rw [h2, nameS_mem]
 exact hp.length_eq
end Go.Proofs.YtgidajjjpeboeaaGreatDoor
namespace Go.Proofs.YtgidajjjpeboeaaGreatDoor
set_option maxRecDepth 100000
def b_history_All : ACode :=
 .seq (gQ [⟨gO, .mov 4 (.k (.lst .nil 7 []))⟩, gJ 5 0]) (.seq (.block 0 (.seq (gQ [gM 15 0, ⟨gO, .eqs 16 false 33 (.s 15) (.k (.raw (Value.pointer none)))⟩, gM 14 16]) (.cond (.s 14) (.seq (gQ [⟨gO, .mov 4 (.k (.lst .nil 7 []))⟩, gJ 5 2]) .ret) (.seq (gQ [gM 18 0, ⟨gO, .calls (some 19) (.k (.fn 50 [])) [.s 18]⟩, gM 17 19]) (.cond (.s 17) (.seq (gQ [⟨gO, .mov 4 (.k (.lst .nil 7 []))⟩, gJ 5 31]) .ret) .skip))))) (.seq (gQ [⟨gO, .mov 6 (.k (.lst .nil 7 []))⟩]) (.seq (.seq (gQ [gM 20 0, ⟨gO, .calls (some 21) (.k (.fn 11 [])) [.s 20]⟩, gH 22 false 21, gJ 23 0]) (.block 1 (.loop (.seq (gQ [gV 24 .lss 23 22]) (.seq (.cond (.s 24) .skip (.exit 1)) (.seq (.block 2 (.seq (gQ [gE 25 9 21 23, gA 26 9 25, ⟨gO, .alloc 8 [.str ⟨#[]⟩, .str ⟨#[]⟩, .str ⟨#[]⟩, .int .i64 0, .bool false, .int .i64 0, .str ⟨#[]⟩, .lst .nil 6 [], .lst .nil 7 []]⟩, gT 9 8 26]) (.seq (.seq (gQ [gF 28 0 8, gA 29 3 28, gC 30 21 [.s 29], gM 27 30, gX 31 0 27, gX 32 1 27, gX 33 2 27, gM 9 31, gM 10 32, gM 11 33]) (.seq (gQ [gM 34 11, ⟨gO, .un 35 .not (.s 34)⟩, gM 36 35, gN 36 false 37 9, gN 36 false 38 1, ⟨some (36, false), .bin 39 .neq false (.s 37) (.s 38)⟩, ⟨gO, .pick 40 (.s 36) (.k (.bool true)) (.s 39)⟩, gM 41 40, ⟨some (41, false), .off 42 0 (.s 8)⟩, ⟨some (41, false), .off 43 0 (.s 42)⟩, ⟨some (41, false), .ld 44 1 false (.s 43)⟩, ⟨some (41, false), .bin 45 .neq false (.s 44) (gS ⟨#[82, 101, 108, 101, 97, 115, 101]⟩)⟩, ⟨gO, .pick 46 (.s 41) (.k (.bool true)) (.s 45)⟩]) (.cond (.s 46) (.exit 2) .skip))) (.seq (gQ [gA 48 9 8, gC 49 51 [.s 48], gM 47 49, gX 50 0 47, gX 51 1 47, ⟨gO, .alloc 12 [.str ⟨#[]⟩, .int .i64 0, .int .i64 0, .int .i64 0, .str ⟨#[]⟩, .str ⟨#[]⟩, .str ⟨#[]⟩]⟩, gT 7 12 50, gM 13 51]) (.seq (.seq (gQ [gM 52 13, gU 53 .neq 52 0]) (.cond (.s 53) (.seq (gQ [gM 54 13, ⟨gO, .mov 4 (.k (.lst .nil 7 []))⟩, gM 5 54]) .ret) .skip)) (.reg [gM 55 6, gA 56 7 12, ⟨gO, .bsl 57 1 7 [.str ⟨#[]⟩, .int .i64 0, .int .i64 0, .int .i64 0, .str ⟨#[]⟩, .str ⟨#[]⟩, .str ⟨#[]⟩] [(0, 7, .s 56)]⟩, ⟨gO, .appr 58 7 88 (.s 55) (.s 57)⟩, gM 6 58])))))) (.reg [gU 59 .add 23 1, gM 23 59]))))))) (.seq (gQ [gM 60 6, ⟨gO, .calls (some 61) (.k (.fn 52 [])) [.s 60, .k (.fn 53 [])]⟩]) (.seq (gQ [gM 62 6, gM 4 62, gJ 5 0]) .ret)))))
def a_history_All : AFn := ⟨2, 63, b_history_All, [.tmp 4, .tmp 5]⟩
theorem a_history_All_ok : fnAF Tryz.prog [2000050, 2000011, 2000052, 4000058] Tryz.f20 = some a_history_All := by kernel_rfl
theorem a_history_All_cb : callable Tryz.prog 20 = true := by kernel_rfl
end Go.Proofs.YtgidajjjpeboeaaGreatDoor
