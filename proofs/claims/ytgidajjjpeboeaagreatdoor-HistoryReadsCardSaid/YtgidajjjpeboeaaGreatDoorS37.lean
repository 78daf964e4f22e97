/-
  The texts that the claim wants, one behind the other: part 37.
-/
import Derived.Test.YtgidajjjpeboeaaGreatDoorS36
import Derived.Test.YtgidajjjpeboeaaGreatDoorChecked
import Derived.KernelRfl
set_option linter.unusedSimpArgs false
set_option linter.unusedVariables false
namespace Go.Proofs.YtgidajjjpeboeaaGreatDoor
open Go.RowKit
theorem RowCs.set {esz : Nat} {rows : List (List AV)} {cap : Nat} {cs : List AV} (h : RowCs esz rows cap cs) {i : Nat} (hi : i < rows.length) {c' : List AV} (hl : c'.length = esz) (hu : c'.map AV.unown = c') :
  RowCs esz (rows.set i c') cap (cs.take (i * esz) ++ c' ++ cs.drop (i * esz + esz)) := by
 have hlen : ∀ c ∈ rows, c.length = esz := fun c hc => (h.ok.2 c hc).1
 have hle : (i + 1) * esz ≤ rows.length * esz := Nat.mul_le_mul_right _ hi
 have hcs : rows.length * esz ≤ cs.length := by rw [h.len]; exact Nat.mul_le_mul_right _ h.cap
 rw [Nat.add_mul, Nat.one_mul] at hle
 obtain ⟨sp, hsp⟩ := h.sp
 refine ⟨⟨h.ok.1, fun c hc => ?_⟩, ⟨sp, ?_⟩, ?_, by rw [List.length_set]; exact h.cap, ?_⟩
 ·rcases List.mem_or_eq_of_mem_set hc with hc | rfl
  ·exact h.ok.2 c hc
  ·exact ⟨hl, hu⟩
 ·rw [hsp, List.set_eq_take_append_cons_drop, if_pos hi, List.flatten_append, List.flatten_cons, flatten_take i hlen, flatten_drop (i + 1) hlen, List.take_append_of_le_length (by rw [flatten_len hlen]; omega), List.drop_append_of_le_length (by rw [flatten_len hlen]; omega), Nat.add_mul, Nat.one_mul]
  simp
 ·rw [← h.len]
  simp only [List.length_append, List.length_take, List.length_drop, hl]
  omega
 ·simp only [List.map_append, List.map_take, List.map_drop, h.un, hu]
theorem bfound_lt {key : ByteArray} {m : List (ByteArray × V)} (h : bfound key m = true) : bpos key m < m.length := by
 obtain ⟨_, y, hy⟩ := minsert_found (x := V.null) h
 exact (List.getElem?_eq_some_iff.1 hy).1
theorem rowsM_minsert_new {key : ByteArray} {x : V} {m : List (ByteArray × V)} (h : bfound key m = false) : rowsM (minsert key x m) = (rowsM m).take (bpos key m) ++ (.str key :: cellsV x) :: (rowsM m).drop (bpos key m) := by
 rw [minsert_new h, rowsM_append, rowsM_take, rowsM, rowsM_drop]
abbrev zeroAVs : List AV := [.int .i64 0, .bool false, .int .i64 0, .str ⟨#[]⟩, .lst .nil 6 [], .lst .nil 7 []]
def mapJ (l : List (ByteArray × V)) : Nat × Option (List (ByteArray × V) × Nat × List AV) → Fr × St
 | (k, none) => (frOf [(2, .ptr 2 0), (3, .ptr 3 0), (9, .lst .any 7 (rowsM l)), (10, .int .i64 (rowsM l).length), (11, .int .i64 k)], ⟨boxOf [(2, zeroAVs, false), (3, [.int .i64 5, .bool false, .int .i64 0, .str ⟨#[]⟩, .lst .nil 6 [], .lst .nil 7 []], false)], fun _ => 0⟩)
 | (k, some (m, cap, cs)) => (frOf [(2, .ptr 2 0), (3, .ptr 3 0), (9, .lst .any 7 (rowsM l)), (10, .int .i64 (rowsM l).length), (11, .int .i64 k)], ⟨boxOf [(2, zeroAVs, false), (3, [.int .i64 5, .bool false, .int .i64 0, .str ⟨#[]⟩, .lst .nil 6 [], .sli 1000042 7 (rowsM m).length cap], false), (1000042, cs, false)], fun _ => 0⟩)
def mapI (l : List (ByteArray × V)) : Nat × Option (List (ByteArray × V) × Nat × List AV) → Prop
 | (k, none) => k ≤ l.length ∧ mapOf (l.take k) = []
 | (k, some (m, cap, cs)) => k ≤ l.length ∧ mapOf (l.take k) = m ∧ RowCs 7 (rowsM m) cap cs
theorem treeMap_a (l : List (ByteArray × V)) (hs : sizeM l ≤ 1000000000000) : AC Tryz.prog 27 [.lst .any 7 (rowsM l)] (.agg [.int .i64 5, .bool false, .int .i64 0, .str ⟨#[]⟩, .lst .any 6 [], .lst .any 7 (rowsM (mapOf l))]) := by
 have hll := len_le_sizeM l
 refine kE Tryz.func27 a_tree_Map_ok a_tree_Map_cb fun E hE => ?_
 refine kW ?_
 refine AK.loopI (mapJ l) (mapI l) (fun i => l.length - i.1) (0, none) ⟨by omega, rfl⟩ (Weak.intro ⟨kI, kI, kI, kI, kI, trivial⟩ ⟨kJ, kJ, trivial⟩ rfl rfl) fun ⟨k, o⟩ hI => ?_
 have hk : k ≤ l.length := by cases o with | none => exact hI.1 | some o => obtain ⟨m, cap, cs⟩ := o; exact hI.1
 obtain ⟨hri, hsm, hlm⟩ := mapOf_facts (l.take k)
 have hsk := sizeM_take_le l k
 have hlk : (l.take k).length ≤ l.length := by rw [List.length_take]; omega
 cases o with
 | none =>
  have hm := hI.2
  simp only [mapJ]
  refine kW ?_
  refine kC (fun hb => ?_) fun hb => ?_
  ·have hlt : k < l.length := by simpa [rowsM_len] using hb
   obtain ⟨⟨y, x⟩, hg⟩ : ∃ x, l[k]? = some x := ⟨_, List.getElem?_eq_getElem hlt⟩
   have hx := mem_sizeM (List.mem_of_getElem? hg)
   simp only at hx
   have hst := mapOf_take hg
   rw [hm] at hst
   refine kW ?_
   refine kP [.c (.str y :: (vC (x)))] ?_ ?_
   ·((repeat' apply And.intro) <;> first | exact kD | (intro hgd; refine ⟨?_, kG⟩; (repeat' apply And.intro) <;> first | exact kD | skip) | skip)
    ·exact rowsM_at hg
   refine kW ?_
   refine kP [.v (.tup [.int .i64 (bpos y [] : Nat), .bool (bfound y [])])] ?_ ?_
   ·((repeat' apply And.intro) <;> first | exact kD | (intro hgd; refine ⟨?_, kG⟩; (repeat' apply And.intro) <;> first | exact kD | skip) | skip)
    ·exact bsearch_a [] y (by simp) (by simp)
   refine kW ?_
   refine kC (fun hb => ?_) fun hb => ?_
   ·cases hb
   refine kW ?_
   refine kP [.v ((vA (x))), .n 7 (rowsM [(y, x)])] ?_ ?_
   ·((repeat' apply And.intro) <;> first | exact kD | (intro hgd; refine ⟨?_, kG⟩; (repeat' apply And.intro) <;> first | exact kD | skip) | skip)
    ·exact clone_ok x (by omega)
    ·simp only [rowsM, cellsV_eq]
     exact insert_mn _
   (repeat (first | apply AK.seq | apply AK.block | apply AK.blk | apply AK.skip))
   refine AK.open2 42 1000042 rfl (by omega) rfl (rowsM_ok _) fun cap cs hr => ?_
   refine kW ?_
   exact AK.lp ⟨(k + 1, some ([(y, x)], cap, cs)), ⟨by omega, hst, hr⟩, Weak.intro ⟨kI, kI, kI, kI, kU, trivial⟩ ⟨kJ, kJ, kJ, trivial⟩ rfl rfl (by exact ⟨hr.un, trivial⟩), by dsimp only; omega⟩
  ·have hlt : k = l.length := by have : l.length ≤ k := by simpa [rowsM_len] using hb
                                 omega
   rw [hlt, List.take_length] at hm
   rw [hm]
   refine AK.exit rfl ?_
   refine kW ?_
   refine AK.ret ⟨_, rfl, ?_⟩
   rfl
 | some o =>
  obtain ⟨m, cap, cs⟩ := o
  obtain ⟨_, hm, hr⟩ := hI
  rw [hm] at hri hsm hlm
  simp only [mapJ]
  refine kW ?_
  refine kC (fun hb => ?_) fun hb => ?_
  ·have hlt : k < l.length := by simpa [rowsM_len] using hb
   obtain ⟨⟨y, x⟩, hg⟩ : ∃ x, l[k]? = some x := ⟨_, List.getElem?_eq_getElem hlt⟩
   have hx := mem_sizeM (List.mem_of_getElem? hg)
   simp only at hx
   have hst := mapOf_take hg
   rw [hm] at hst
   refine kW ?_
   refine kP [.c (.str y :: (vC (x)))] ?_ ?_
   ·((repeat' apply And.intro) <;> first | exact kD | (intro hgd; refine ⟨?_, kG⟩; (repeat' apply And.intro) <;> first | exact kD | skip) | skip)
    ·exact rowsM_at hg
   refine kW ?_
   refine kP [.b (rowsM m) (.tup [.int .i64 (bpos y m : Nat), .bool (bfound y m)])] ?_ ?_
   ·((repeat' apply And.intro) <;> first | exact kD | (intro hgd; refine ⟨?_, kG⟩; (repeat' apply And.intro) <;> first | exact kD | skip) | skip)
    ·exact hr.sp
    ·exact hr.len
    ·exact hr.ok.2
    ·exact bsearch_a m y hri (by omega)
   refine kW ?_
   refine kC (fun hb => ?_) fun hb => ?_
   ·have hf : bfound y m = true := hb
    obtain ⟨hset, z, hz⟩ := minsert_found (x := x) hf
    have hbl := bfound_lt hf
    have hrow := hr.row (rowsM_at hz)
    have hbl2 : ((bpos y m : Nat) : Int) < (rowsM m).length := by rw [rowsM_len]; omega
    refine kW ?_
    refine kP [.v ((vA (x))), .c (.str y :: (vC (z)))] ?_ ?_
    ·((repeat' apply And.intro) <;> first | exact kD | (intro hgd; refine ⟨?_, kG⟩; (repeat' apply And.intro) <;> first | exact kD | skip) | skip)
     ·exact clone_ok x (by omega)
     ·exact hrow.2
    refine AK.exit rfl ?_
    have hr2 := hr.set (i := bpos y m) (by rw [rowsM_len]; exact hbl) (c' := .str y :: (vC (x))) rfl rfl
    have hrs : rowsM (minsert y x m) = (rowsM m).set (bpos y m) (.str y :: (vC (x))) := by rw [hset, rowsM_set, cellsV_eq]
    rw [← hrs] at hr2
    have hln : (rowsM m).length = (rowsM (minsert y x m)).length := by rw [hrs, List.length_set]
    refine kW ?_
    exact AK.lp ⟨(k + 1, some (minsert y x m, cap, _)), ⟨by omega, hst, hr2⟩, Weak.intro ⟨kI, kI, kI, kI, kU, trivial⟩ ⟨kJ, ⟨_, rfl, leL_of_eq (by rw [hln])⟩, ⟨_, rfl, leL_of_eq rfl⟩, trivial⟩ rfl rfl (by exact ⟨hr2.un, trivial⟩), by dsimp only; omega⟩
   ·have hf : bfound y m = false := hb
    have hbl := bpos_le y m
    refine kW ?_
    refine kP [.v ((vA (x))), .m (rowsM m) (rowsM (minsert y x m))] ?_ ?_
    ·((repeat' apply And.intro) <;> first | exact kD | (intro hgd; refine ⟨?_, kG⟩; (repeat' apply And.intro) <;> first | exact kD | skip) | skip)
     ·exact clone_ok x (by omega)
     ·exact hr.sp
     ·exact hr.len
     ·exact hr.ok.2
     ·rw [rowsM_minsert_new hf, cellsV_eq]
      exact insert_mr (rowsM m) (bpos y m) _ (by rw [rowsM_len]; exact hbl) (by rw [rowsM_len]; omega)
    (repeat (first | apply AK.seq | apply AK.block | apply AK.blk | apply AK.skip))
    refine AK.open2 42 1000042 rfl (by omega) rfl (rowsM_ok _) fun cap2 cs2 hr2 => ?_
    refine kW ?_
    exact AK.lp ⟨(k + 1, some (minsert y x m, cap2, cs2)), ⟨by omega, hst, hr2⟩, Weak.intro ⟨kI, kI, kI, kI, kU, trivial⟩ ⟨kJ, kJ, kJ, trivial⟩ rfl rfl (by exact ⟨hr2.un, trivial⟩), by dsimp only; omega⟩
  ·have hlt : k = l.length := by have : l.length ≤ k := by simpa [rowsM_len] using hb
                                 omega
   rw [hlt, List.take_length] at hm
   rw [hm]
   refine AK.exit rfl ?_
   (repeat (first | apply AK.seq | apply AK.block | apply AK.blk | apply AK.skip))
   refine AK.fz 1000042 rfl ?_
   refine AK.weak (Weak.intro (L := [(2, .ptr 2 0), (3, .ptr 3 0)]) (BL := [(2, zeroAVs, false), (3, [.int .i64 5, .bool false, .int .i64 0, .str ⟨#[]⟩, .lst .nil 6 [], .lst .any 7 (rowsM m)], false)]) ⟨kI, kI, trivial⟩ ⟨kJ, ⟨_, rfl, ⟨.refl _, .refl _, .refl _, .refl _, .refl _, hr.le rfl, trivial⟩⟩, trivial⟩ rfl rfl (by exact trivial)) ?_
   refine kW ?_
   refine AK.ret ⟨_, rfl, ?_⟩
   rfl
theorem pair_a (k : ByteArray) (v : V) : AC Tryz.prog 137 [.str k, (vA (v))] (.agg (.str k :: (vC (v)))) := by
 refine kE Tryz.func137 a_record_Encode_1_ok a_record_Encode_1_cb fun E hE => ?_
 refine kW ?_
 refine AK.ret ⟨_, rfl, ?_⟩
 rfl
theorem rises_recM (r : Rc) : Rises (recM r) := by
 have key : ([kChart, kCommand, kManifest, kRelease, kRevision, kStatus, kValues] : List ByteArray).Pairwise (fun a b => Op.bytesLess a.toList b.toList = true) := by decide +kernel
 have e : (recM r).map (·.1) = [kChart, kCommand, kManifest, kRelease, kRevision, kStatus, kValues] := rfl
 rw [← e, List.pairwise_map] at key
 exact key
theorem encode_a (r : Rc) : AC Tryz.prog 88 [.agg (rcA r)] ((vA ((recV r)))) := by
 have hM := treeMap_a (recM r) (by simp [recM, sizeM, V.size, V.str, V.int, sizeL])
 rw [mapOf_rises (rises_recM r)] at hM
 refine kE Tryz.func88 a_record_Encode_ok a_record_Encode_cb fun E hE => ?_
 refine kW ?_
 refine kP [.v ((vA ((V.str r.ch)))), .v (.agg (.str kChart :: (vC ((V.str r.ch))))), .v ((vA ((V.int r.cmd)))), .v (.agg (.str kCommand :: (vC ((V.int r.cmd))))), .v ((vA ((V.str r.ma)))), .v (.agg (.str kManifest :: (vC ((V.str r.ma))))), .v ((vA ((V.str r.rel)))), .v (.agg (.str kRelease :: (vC ((V.str r.rel))))), .v ((vA ((V.int r.rev)))), .v (.agg (.str kRevision :: (vC ((V.int r.rev))))), .v ((vA ((V.int r.st)))), .v (.agg (.str kStatus :: (vC ((V.int r.st))))), .v ((vA ((V.str r.va)))), .v (.agg (.str kValues :: (vC ((V.str r.va))))), .v ((vA ((recV r))))] ?_ ?_
 ·((repeat' apply And.intro) <;> first | exact kD | (intro hgd; refine ⟨?_, kG⟩; (repeat' apply And.intro) <;> first | exact kD | skip) | skip)
  all_goals first | exact treeStr_a _ | exact treeInt_a _ | exact pair_a _ _ | exact hM | skip
 refine kW ?_
 refine AK.ret ⟨_, rfl, ?_⟩
 rfl
theorem text_a (a b c : ByteArray) (v x : V) (key : ByteArray) (hg : v.good) (hsz : v.size ≤ 1000000000000) (h : mfind key v.m = some x) : AC Tryz.prog 83 [.str key, .ro (.str a :: .str b :: .str c :: (vC (v)))] (.str x.s) := by
 have hG := treeGet_some clone_ok hg hsz h
 refine kE Tryz.func83 a_record_Decode_1_ok a_record_Decode_1_cb fun E hE => ?_
 refine kW ?_
 refine kQ [.v (.tup [(vA (x)), .bool true])] ?_
 refine kW ?_
 refine AK.ret ⟨_, rfl, ?_⟩
 rfl
theorem recNum_a (a b c : ByteArray) (v x : V) (key : ByteArray) (hg : v.good) (hsz : v.size ≤ 1000000000000) (h : mfind key v.m = some x) : AC Tryz.prog 85 [.str key, .ro (.str a :: .str b :: .str c :: (vC (v)))] (.int .i64 x.n) := by
 have hG := treeGet_some clone_ok hg hsz h
 refine kE Tryz.func85 a_record_Decode_2_ok a_record_Decode_2_cb fun E hE => ?_
 refine kW ?_
 refine kQ [.v (.tup [(vA (x)), .bool true])] ?_
 refine kW ?_
 refine AK.ret ⟨_, rfl, ?_⟩
 rfl
def rc0 : List AV := [.str ⟨#[]⟩, .int .i64 0, .int .i64 0, .int .i64 0, .str ⟨#[]⟩, .str ⟨#[]⟩, .str ⟨#[]⟩]
theorem same_first {a b : V} : (!decide (a.kind = b.kind) || (a.b != b.b) || !decide (a.n = b.n) || !decide (a.s = b.s) || !decide (((rowsV a.l).length : Int) = (rowsV b.l).length) || !decide (((rowsM a.m).length : Int) = (rowsM b.m).length)) = true → a ≠ b := by
 rintro h rfl
 simp at h
theorem same_rest {a b : V} (h : (!decide (a.kind = b.kind) || (a.b != b.b) || !decide (a.n = b.n) || !decide (a.s = b.s) || !decide (((rowsV a.l).length : Int) = (rowsV b.l).length) || !decide (((rowsM a.m).length : Int) = (rowsM b.m).length)) = false) :
  a.kind = b.kind ∧ a.b = b.b ∧ a.n = b.n ∧ a.s = b.s ∧ a.l.length = b.l.length ∧ a.m.length = b.m.length := by
 simp only [rowsV_len, rowsM_len, Bool.or_eq_false_iff, Bool.not_eq_false', decide_eq_true_eq, bne_eq_false_iff_eq] at h
 obtain ⟨⟨⟨⟨⟨h1, h2⟩, h3⟩, h4⟩, h5⟩, h6⟩ := h
 exact ⟨h1, h2, h3, h4, by omega, by omega⟩
theorem same_no {a b : V} (h : a ≠ b) : AV.bool false = .bool (a.sameB b) := by rw [V.sameB_false.2 h]
theorem take_more {α : Type} {l m : List α} {k : Nat} {x y : α} (h : l.take k = m.take k) (hx : l[k]? = some x) (hy : m[k]? = some y) (e : x = y) : l.take (k + 1) = m.take (k + 1) := by rw [take_snoc hx, take_snoc hy, h, e]
set_option maxRecDepth 4000 in
theorem refSame_a (n : Nat) : ∀ a b : V, a.size ≤ n → a.size ≤ 2000000000000 → AC Tryz.prog 35 [(vA (a)), (vA (b))] (.bool (a.sameB b)) := by
 induction n with
 | zero => intro v _ h; have := v.size_pos; omega
 | succ n ih =>
  intro a b hn hsz
  have hve := a.size_eq
  have hll := len_le_sizeL a.l
  have hlm := len_le_sizeM a.m
  refine kE Tryz.func35 a_ref01_Same_ok a_ref01_Same_cb fun E hE => ?_
  refine kW ?_
  refine kQ [] ?_
  refine kC (fun hb => ?_) fun hb => ?_
  ·refine kW ?_
   refine AK.ret ⟨_, rfl, ?_⟩
   exact same_no (same_first hb)
  obtain ⟨e1, e2, e3, e4, e5, e6⟩ := same_rest hb
  clear hb
  refine kW ?_
  refine AK.loopI (fun k : Nat => (frOf [(2, .ptr 2 0), (3, .ptr 3 0), (5, .int .i64 k)], ⟨boxOf [(2, (vC (a)), false), (3, (vC (b)), false)], fun _ => 0⟩)) (fun k => k ≤ a.l.length ∧ a.l.take k = b.l.take k) (fun k => a.l.length - k) 0 ⟨by omega, rfl⟩ (Weak.intro ⟨kI, kI, kI, trivial⟩ ⟨kJ, kJ, trivial⟩ rfl rfl) fun k ⟨hk, hr⟩ => ?_
  refine kW ?_
  refine kC (fun hb => ?_) fun hb => ?_
  ·have hlt : k < a.l.length := by simpa [rowsV_len] using hb
   obtain ⟨x, hg⟩ : ∃ x, a.l[k]? = some x := ⟨_, List.getElem?_eq_getElem hlt⟩
   obtain ⟨y, hy⟩ : ∃ x, b.l[k]? = some x := ⟨_, List.getElem?_eq_getElem (by omega)⟩
   have hx := sizeL_take hg
   have hx2 := sizeL_take_le a.l (k + 1)
   refine kW ?_
   refine kP [.c (vC (x)), .c (vC (y)), .v (.bool (x.sameB y))] ?_ ?_
   ·((repeat' apply And.intro) <;> first | exact kD | (intro hgd; refine ⟨?_, kG⟩; (repeat' apply And.intro) <;> first | exact kD | skip) | skip)
    ·exact rowsV_at hg
    ·exact rowsV_at hy
    ·exact ih x y (by omega) (by omega)
   refine kC (fun hb => ?_) fun hb => ?_
   ·have he : x ≠ y := V.sameB_false.1 (by simpa using hb)
    refine kW ?_
    refine AK.ret ⟨_, rfl, ?_⟩
    exact same_no (by rintro rfl; rw [hg] at hy; exact he (Option.some.inj hy))
   ·have he : x = y := V.sameB_true.1 (by simpa using hb)
    refine kW ?_
    exact AK.lp ⟨k + 1, ⟨by omega, take_more hr hg hy he⟩, Weak.intro ⟨kI, kI, kU, trivial⟩ ⟨kJ, kJ, trivial⟩ rfl rfl, by omega⟩
  ·have hlt : k = a.l.length := by have : a.l.length ≤ k := by simpa [rowsV_len] using hb
                                   omega
   subst hlt
   have e7 : a.l = b.l := by rw [List.take_length, e5, List.take_length] at hr; exact hr
   clear hr
   refine AK.exit rfl ?_
   refine kW ?_
   refine AK.loopI (fun k : Nat => (frOf [(2, .ptr 2 0), (3, .ptr 3 0), (6, .int .i64 k)], ⟨boxOf [(2, (vC (a)), false), (3, (vC (b)), false)], fun _ => 0⟩)) (fun k => k ≤ a.m.length ∧ a.m.take k = b.m.take k) (fun k => a.m.length - k) 0 ⟨by omega, rfl⟩ (Weak.intro ⟨kI, kI, kI, trivial⟩ ⟨kJ, kJ, trivial⟩ rfl rfl) fun k ⟨hk, hr⟩ => ?_
   refine kW ?_
   refine kC (fun hb => ?_) fun hb => ?_
   ·have hlt : k < a.m.length := by simpa [rowsM_len] using hb
    obtain ⟨⟨p, x⟩, hg⟩ : ∃ x, a.m[k]? = some x := ⟨_, List.getElem?_eq_getElem hlt⟩
    obtain ⟨⟨q, y⟩, hy⟩ : ∃ x, b.m[k]? = some x := ⟨_, List.getElem?_eq_getElem (by omega)⟩
    have hx := sizeM_take hg
    have hx2 := sizeM_take_le a.m (k + 1)
    refine kW ?_
    refine kP [.c (.str p :: (vC (x))), .c (.str q :: (vC (y))), .c (.str p :: (vC (x))), .c (.str q :: (vC (y))), .v (.bool (x.sameB y))] ?_ ?_
    ·((repeat' apply And.intro) <;> first | exact kD | (intro hgd; refine ⟨?_, kG⟩; (repeat' apply And.intro) <;> first | exact kD | skip) | skip)
     ·exact rowsM_at hg
     ·exact rowsM_at hy
     ·exact rowsM_at hg
     ·exact rowsM_at hy
     ·exact ih x y (by omega) (by omega)
    refine kC (fun hb => ?_) fun hb => ?_
    ·have he : ¬ (p = q ∧ x = y) := by
      rintro ⟨rfl, rfl⟩
      rw [V.sameB_true.2 rfl] at hb
      simp at hb
     refine kW ?_
     refine AK.ret ⟨_, rfl, ?_⟩
     exact same_no (by rintro rfl; rw [hg] at hy; cases hy; exact he ⟨rfl, rfl⟩)
    ·have he : p = q ∧ x = y := by
      simp only [Bool.or_eq_false_iff, Bool.not_eq_false', decide_eq_true_eq] at hb
      exact ⟨hb.1, V.sameB_true.1 hb.2⟩
     refine kW ?_
     exact AK.lp ⟨k + 1, ⟨by omega, take_more hr hg hy (by rw [he.1, he.2])⟩, Weak.intro ⟨kI, kI, kU, trivial⟩ ⟨kJ, kJ, trivial⟩ rfl rfl, by omega⟩
   ·have hlt : k = a.m.length := by have : a.m.length ≤ k := by simpa [rowsM_len] using hb
                                    omega
    subst hlt
    have e8 : a.m = b.m := by rw [List.take_length, e6, List.take_length] at hr; exact hr
    refine AK.exit rfl ?_
    refine kW ?_
    refine AK.ret ⟨_, rfl, ?_⟩
    exact congrArg AV.bool (V.sameB_true.2 (V.ext_iff'.2 ⟨e1, e2, e3, e4, e7, e8⟩)).symm
end Go.Proofs.YtgidajjjpeboeaaGreatDoor
namespace Go.Proofs.YtgidajjjpeboeaaGreatDoor
set_option maxRecDepth 100000
def b_ref01_Get : ACode :=
 .seq (gQ [gP 2 0, ⟨gO, .alloc 4 gZ⟩, ⟨gO, .mov 5 (.k (.bool false))⟩]) (.seq (.seq (gQ [gJ 6 0]) (.block 0 (.loop (.seq (.seq (gQ [gM 7 6, gF 8 5 2, gL 9 8, gH 10 false 9, gV 11 .lss 7 10]) (.cond (.s 11) .skip (.exit 0))) (.seq (.block 1 (.seq (gQ [gF 14 5 2, gL 15 14, gM 16 6, gE 17 7 15 16, gF 18 0 17, gL 19 18, gM 20 1, gV 21 .eql 19 20]) (.cond (.s 21) (.seq (gQ [gF 22 5 2, gL 23 22, gM 24 6, gE 25 7 23 24, gF 26 1 25, gA 27 6 26, gT 6 4 27, ⟨gO, .mov 5 (.k (.bool true))⟩]) .ret) .skip))) (.reg [gM 12 6, gU 13 .add 12 1, gM 6 13])))))) (.seq (gQ [⟨gO, .build 28 gZ []⟩, gT 6 4 28, ⟨gO, .mov 5 (.k (.bool false))⟩]) .ret))
def a_ref01_Get : AFn := ⟨2, 29, b_ref01_Get, [.cell 4 6 true, .tmp 5]⟩
theorem a_ref01_Get_ok : fnAF Tryz.prog [] Tryz.f98 = some a_ref01_Get := by kernel_rfl
theorem a_ref01_Get_cb : callable Tryz.prog 98 = true := by kernel_rfl
end Go.Proofs.YtgidajjjpeboeaaGreatDoor
namespace Go.Proofs.YtgidajjjpeboeaaGreatDoor
open Go.RowKit
theorem refGet_a (v : V) (key : ByteArray) (hsz : v.size ≤ 2000000000000) : AC Tryz.prog 98 [(vA (v)), .str key] (getAV (mfind key v.m)) := by
 have hve := v.size_eq
 have hlm := len_le_sizeM v.m
 refine kE Tryz.func98 a_ref01_Get_ok a_ref01_Get_cb fun E hE => ?_
 refine kW ?_
 refine AK.loopI (fun k : Nat => (frOf [(1, .str key), (2, .ptr 2 0), (4, .ptr 4 0), (6, .int .i64 k)], ⟨boxOf [(2, (vC (v)), false), (4, [.int .i64 0, .bool false, .int .i64 0, .str ⟨#[]⟩, .lst .nil 6 [], .lst .nil 7 []], false)], fun _ => 0⟩)) (fun k => k ≤ v.m.length ∧ ∀ j p, j < k → v.m[j]? = some p → p.1 ≠ key) (fun k => v.m.length - k) 0 ⟨by omega, fun j p h => by omega⟩ (Weak.intro ⟨kI, kI, kI, kI, trivial⟩ ⟨kJ, kJ, trivial⟩ rfl rfl) fun k ⟨hk, hr⟩ => ?_
 refine kW ?_
 refine kC (fun hb => ?_) fun hb => ?_
 ·have hlt : k < v.m.length := by simpa [rowsM_len] using hb
  obtain ⟨⟨y, x⟩, hg⟩ : ∃ x, v.m[k]? = some x := ⟨_, List.getElem?_eq_getElem hlt⟩
  refine kW ?_
  refine kP [.c (.str y :: (vC (x)))] ?_ ?_
  ·((repeat' apply And.intro) <;> first | exact kD | (intro hgd; refine ⟨?_, kG⟩; (repeat' apply And.intro) <;> first | exact kD | skip) | skip)
   ·exact rowsM_at hg
  refine kC (fun hb => ?_) fun hb => ?_
  ·have he : y = key := by simpa using hb
   subst he
   refine kW ?_
   refine kP [.c (.str y :: (vC (x)))] ?_ ?_
   ·((repeat' apply And.intro) <;> first | exact kD | (intro hgd; refine ⟨?_, kG⟩; (repeat' apply And.intro) <;> first | exact kD | skip) | skip)
    ·exact rowsM_at hg
   refine kW ?_
   refine AK.ret ⟨_, rfl, ?_⟩
   rw [mfind_at hr hg]
   rfl
  ·have he : y ≠ key := by simpa using hb
   refine kW ?_
   exact AK.lp ⟨k + 1, ⟨by omega, ne_more hr hg he⟩, Weak.intro ⟨kI, kI, kI, kU, trivial⟩ ⟨kJ, kJ, trivial⟩ rfl rfl, by omega⟩
 ·have hlt : k = v.m.length := by have : v.m.length ≤ k := by simpa [rowsM_len] using hb
                                  omega
  subst hlt
  refine AK.exit rfl ?_
  refine kW ?_
  refine AK.ret ⟨_, rfl, ?_⟩
  rw [mfind_none hr]
  rfl
end Go.Proofs.YtgidajjjpeboeaaGreatDoor
