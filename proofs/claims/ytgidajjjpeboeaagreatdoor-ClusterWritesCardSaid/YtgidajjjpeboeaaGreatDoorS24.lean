/-
  The texts that the claim wants, one behind the other: part 24.
-/
import Derived.Test.YtgidajjjpeboeaaGreatDoorS23
set_option linter.unusedSimpArgs false
set_option linter.unusedVariables false
namespace Go.Proofs.YtgidajjjpeboeaaGreatDoor
open Go.RowKit
theorem RowCs.set {esz : Nat} {rows : List (List AV)} {cap : Nat} {cs : List AV} (h : RowCs esz rows cap cs) {i : Nat} (hi : i < rows.length) {c' : List AV} (hl : c'.length = esz) (hu : c'.map AV.unown = c') :
  RowCs esz (rows.set i c') cap (cs.take (i * esz) ++ c' ++ cs.drop (i * esz + esz)) := by
 have hlen : ∀ c ∈ rows, c.length = esz := fun c hc => (h.ok.2 c hc).1
 have hle : (i + 1) * esz ≤ rows.length * esz := Nat.mul_le_mul_right _ hi
 have hcs : rows.length * esz ≤ cs.length := by rw [h.len]; exact Nat.mul_le_mul_right _ h.cap
 rw [Nat.add_mul, Nat.one_mul] at hle
 obtain ⟨sp, hsp⟩ := h.sp
 refine ⟨⟨h.ok.1, fun c hc => ?_⟩, ⟨sp, ?_⟩, ?_, by rw [List.length_set]; exact h.cap, ?_⟩
 ·rcases List.mem_or_eq_of_mem_set hc with hc | rfl
  ·exact h.ok.2 c hc
  ·exact ⟨hl, hu⟩
 ·rw [hsp, List.set_eq_take_append_cons_drop, if_pos hi, List.flatten_append, List.flatten_cons, flatten_take i hlen, flatten_drop (i + 1) hlen, List.take_append_of_le_length (by rw [flatten_len hlen]; omega), List.drop_append_of_le_length (by rw [flatten_len hlen]; omega), Nat.add_mul, Nat.one_mul]
  simp
 ·rw [← h.len]
  simp only [List.length_append, List.length_take, List.length_drop, hl]
  omega
 ·simp only [List.map_append, List.map_take, List.map_drop, h.un, hu]
theorem bfound_lt {key : ByteArray} {m : List (ByteArray × V)} (h : bfound key m = true) : bpos key m < m.length := by
 obtain ⟨_, y, hy⟩ := minsert_found (x := V.null) h
 exact (List.getElem?_eq_some_iff.1 hy).1
theorem rowsM_minsert_new {key : ByteArray} {x : V} {m : List (ByteArray × V)} (h : bfound key m = false) : rowsM (minsert key x m) = (rowsM m).take (bpos key m) ++ (.str key :: cellsV x) :: (rowsM m).drop (bpos key m) := by
 rw [minsert_new h, rowsM_append, rowsM_take, rowsM, rowsM_drop]
abbrev zeroAVs : List AV := [.int .i64 0, .bool false, .int .i64 0, .str ⟨#[]⟩, .lst .nil 6 [], .lst .nil 7 []]
def mapJ (l : List (ByteArray × V)) : Nat × Option (List (ByteArray × V) × Nat × List AV) → Fr × St
 | (k, none) => (frOf [(2, .ptr 2 0), (3, .ptr 3 0), (9, .lst .any 7 (rowsM l)), (10, .int .i64 (rowsM l).length), (11, .int .i64 k)], ⟨boxOf [(2, zeroAVs, false), (3, [.int .i64 5, .bool false, .int .i64 0, .str ⟨#[]⟩, .lst .nil 6 [], .lst .nil 7 []], false)], fun _ => 0⟩)
 | (k, some (m, cap, cs)) => (frOf [(2, .ptr 2 0), (3, .ptr 3 0), (9, .lst .any 7 (rowsM l)), (10, .int .i64 (rowsM l).length), (11, .int .i64 k)], ⟨boxOf [(2, zeroAVs, false), (3, [.int .i64 5, .bool false, .int .i64 0, .str ⟨#[]⟩, .lst .nil 6 [], .sli 1000042 7 (rowsM m).length cap], false), (1000042, cs, false)], fun _ => 0⟩)
def mapI (l : List (ByteArray × V)) : Nat × Option (List (ByteArray × V) × Nat × List AV) → Prop
 | (k, none) => k ≤ l.length ∧ mapOf (l.take k) = []
 | (k, some (m, cap, cs)) => k ≤ l.length ∧ mapOf (l.take k) = m ∧ RowCs 7 (rowsM m) cap cs
theorem treeMap_a (l : List (ByteArray × V)) (hs : sizeM l ≤ 1000000000000) : AC Tryz.prog 27 [.lst .any 7 (rowsM l)] (.agg [.int .i64 5, .bool false, .int .i64 0, .str ⟨#[]⟩, .lst .any 6 [], .lst .any 7 (rowsM (mapOf l))]) := by
 have hll := len_le_sizeM l
 refine kE Tryz.func27 a_tree_Map_ok a_tree_Map_cb fun E hE => ?_
 refine kW ?_
 refine AK.loopI (mapJ l) (mapI l) (fun i => l.length - i.1) (0, none) ⟨by omega, rfl⟩ (Weak.intro ⟨kI, kI, kI, kI, kI, trivial⟩ ⟨kJ, kJ, trivial⟩ rfl rfl) fun ⟨k, o⟩ hI => ?_
 have hk : k ≤ l.length := by cases o with | none => exact hI.1 | some o => obtain ⟨m, cap, cs⟩ := o; exact hI.1
 obtain ⟨hri, hsm, hlm⟩ := mapOf_facts (l.take k)
 have hsk := sizeM_take_le l k
 have hlk : (l.take k).length ≤ l.length := by rw [List.length_take]; omega
 cases o with
 | none =>
  have hm := hI.2
  simp only [mapJ]
  refine kW ?_
  refine kC (fun hb => ?_) fun hb => ?_
  ·have hlt : k < l.length := by simpa [rowsM_len] using hb
   obtain ⟨⟨y, x⟩, hg⟩ : ∃ x, l[k]? = some x := ⟨_, List.getElem?_eq_getElem hlt⟩
   have hx := mem_sizeM (List.mem_of_getElem? hg)
   simp only at hx
   have hst := mapOf_take hg
   rw [hm] at hst
   refine kW ?_
   refine kP [.c (.str y :: (vC (x)))] ?_ ?_
   ·((repeat' apply And.intro) <;> first | exact kD | (intro hgd; refine ⟨?_, kG⟩; (repeat' apply And.intro) <;> first | exact kD | skip) | skip)
    ·exact rowsM_at hg
   refine kW ?_
   refine kP [.v (.tup [.int .i64 (bpos y [] : Nat), .bool (bfound y [])])] ?_ ?_
   ·((repeat' apply And.intro) <;> first | exact kD | (intro hgd; refine ⟨?_, kG⟩; (repeat' apply And.intro) <;> first | exact kD | skip) | skip)
    ·exact bsearch_a [] y (by simp) (by simp)
   refine kW ?_
   refine kC (fun hb => ?_) fun hb => ?_
   ·cases hb
   refine kW ?_
   refine kP [.v ((vA (x))), .n 7 (rowsM [(y, x)])] ?_ ?_
   ·((repeat' apply And.intro) <;> first | exact kD | (intro hgd; refine ⟨?_, kG⟩; (repeat' apply And.intro) <;> first | exact kD | skip) | skip)
    ·exact clone_ok x (by omega)
    ·simp only [rowsM, cellsV_eq]
     exact insert_mn _
   (repeat (first | apply AK.seq | apply AK.block | apply AK.blk | apply AK.skip))
   refine AK.open2 42 1000042 rfl (by omega) rfl (rowsM_ok _) fun cap cs hr => ?_
   refine kW ?_
   exact AK.lp ⟨(k + 1, some ([(y, x)], cap, cs)), ⟨by omega, hst, hr⟩, Weak.intro ⟨kI, kI, kI, kI, kU, trivial⟩ ⟨kJ, kJ, kJ, trivial⟩ rfl rfl (by exact ⟨hr.un, trivial⟩), by dsimp only; omega⟩
  ·have hlt : k = l.length := by have : l.length ≤ k := by simpa [rowsM_len] using hb
                                 omega
   rw [hlt, List.take_length] at hm
   rw [hm]
   refine AK.exit rfl ?_
   refine kW ?_
   refine AK.ret ⟨_, rfl, ?_⟩
   rfl
 | some o =>
  obtain ⟨m, cap, cs⟩ := o
  obtain ⟨_, hm, hr⟩ := hI
  rw [hm] at hri hsm hlm
  simp only [mapJ]
  refine kW ?_
  refine kC (fun hb => ?_) fun hb => ?_
  ·have hlt : k < l.length := by simpa [rowsM_len] using hb
   obtain ⟨⟨y, x⟩, hg⟩ : ∃ x, l[k]? = some x := ⟨_, List.getElem?_eq_getElem hlt⟩
   have hx := mem_sizeM (List.mem_of_getElem? hg)
   simp only at hx
   have hst := mapOf_take hg
   rw [hm] at hst
   refine kW ?_
   refine kP [.c (.str y :: (vC (x)))] ?_ ?_
   ·((repeat' apply And.intro) <;> first | exact kD | (intro hgd; refine ⟨?_, kG⟩; (repeat' apply And.intro) <;> first | exact kD | skip) | skip)
    ·exact rowsM_at hg
   refine kW ?_
   refine kP [.b (rowsM m) (.tup [.int .i64 (bpos y m : Nat), .bool (bfound y m)])] ?_ ?_
   ·((repeat' apply And.intro) <;> first | exact kD | (intro hgd; refine ⟨?_, kG⟩; (repeat' apply And.intro) <;> first | exact kD | skip) | skip)
    ·exact hr.sp
    ·exact hr.len
    ·exact hr.ok.2
    ·exact bsearch_a m y hri (by omega)
   refine kW ?_
   refine kC (fun hb => ?_) fun hb => ?_
   ·have hf : bfound y m = true := hb
    obtain ⟨hset, z, hz⟩ := minsert_found (x := x) hf
    have hbl := bfound_lt hf
    have hrow := hr.row (rowsM_at hz)
    have hbl2 : ((bpos y m : Nat) : Int) < (rowsM m).length := by rw [rowsM_len]; omega
    refine kW ?_
    refine kP [.v ((vA (x))), .c (.str y :: (vC (z)))] ?_ ?_
    ·((repeat' apply And.intro) <;> first | exact kD | (intro hgd; refine ⟨?_, kG⟩; (repeat' apply And.intro) <;> first | exact kD | skip) | skip)
     ·exact clone_ok x (by omega)
     ·exact hrow.2
    refine AK.exit rfl ?_
    have hr2 := hr.set (i := bpos y m) (by rw [rowsM_len]; exact hbl) (c' := .str y :: (vC (x))) rfl rfl
    have hrs : rowsM (minsert y x m) = (rowsM m).set (bpos y m) (.str y :: (vC (x))) := by rw [hset, rowsM_set, cellsV_eq]
    rw [← hrs] at hr2
    have hln : (rowsM m).length = (rowsM (minsert y x m)).length := by rw [hrs, List.length_set]
    refine kW ?_
    exact AK.lp ⟨(k + 1, some (minsert y x m, cap, _)), ⟨by omega, hst, hr2⟩, Weak.intro ⟨kI, kI, kI, kI, kU, trivial⟩ ⟨kJ, ⟨_, rfl, leL_of_eq (by rw [hln])⟩, ⟨_, rfl, leL_of_eq rfl⟩, trivial⟩ rfl rfl (by exact ⟨hr2.un, trivial⟩), by dsimp only; omega⟩
   ·have hf : bfound y m = false := hb
    have hbl := bpos_le y m
    refine kW ?_
    refine kP [.v ((vA (x))), .m (rowsM m) (rowsM (minsert y x m))] ?_ ?_
    ·((repeat' apply And.intro) <;> first | exact kD | (intro hgd; refine ⟨?_, kG⟩; (repeat' apply And.intro) <;> first | exact kD | skip) | skip)
     ·exact clone_ok x (by omega)
     ·exact hr.sp
     ·exact hr.len
     ·exact hr.ok.2
     ·rw [rowsM_minsert_new hf, cellsV_eq]
      exact insert_mr (rowsM m) (bpos y m) _ (by rw [rowsM_len]; exact hbl) (by rw [rowsM_len]; omega)
    (repeat (first | apply AK.seq | apply AK.block | apply AK.blk | apply AK.skip))
    refine AK.open2 42 1000042 rfl (by omega) rfl (rowsM_ok _) fun cap2 cs2 hr2 => ?_
    refine kW ?_
    exact AK.lp ⟨(k + 1, some (minsert y x m, cap2, cs2)), ⟨by omega, hst, hr2⟩, Weak.intro ⟨kI, kI, kI, kI, kU, trivial⟩ ⟨kJ, kJ, kJ, trivial⟩ rfl rfl (by exact ⟨hr2.un, trivial⟩), by dsimp only; omega⟩
  ·have hlt : k = l.length := by have : l.length ≤ k := by simpa [rowsM_len] using hb
                                 omega
   rw [hlt, List.take_length] at hm
   rw [hm]
   refine AK.exit rfl ?_
   (repeat (first | apply AK.seq | apply AK.block | apply AK.blk | apply AK.skip))
   refine AK.fz 1000042 rfl ?_
   refine AK.weak (Weak.intro (L := [(2, .ptr 2 0), (3, .ptr 3 0)]) (BL := [(2, zeroAVs, false), (3, [.int .i64 5, .bool false, .int .i64 0, .str ⟨#[]⟩, .lst .nil 6 [], .lst .any 7 (rowsM m)], false)]) ⟨kI, kI, trivial⟩ ⟨kJ, ⟨_, rfl, ⟨.refl _, .refl _, .refl _, .refl _, .refl _, hr.le rfl, trivial⟩⟩, trivial⟩ rfl rfl (by exact trivial)) ?_
   refine kW ?_
   refine AK.ret ⟨_, rfl, ?_⟩
   rfl
end Go.Proofs.YtgidajjjpeboeaaGreatDoor
