/-
  The texts that the claim wants, one behind the other: part 20.
-/
import Derived.Test.YtdncaodccgfniaaDoorS19
set_option linter.unusedSimpArgs false
set_option linter.unusedVariables false
namespace Go.Proofs.YtdncaodccgfniaaDoor
open Go.RowKit
abbrev emV : V := .mk 5 false 0 ⟨#[]⟩ [] []
theorem emV_depth : V.depth emV = 1 := by decide +kernel
theorem emV_size : V.size emV = 1 := by decide +kernel
theorem kCt {P : Program} {E : Env} {Q : Exit → Fr → St → Prop} {k : List AItem} {fr : Fr} {st : St} {x : Opd} {t e : ACode} (h1 : AK P E Q (.c t :: k) fr st) (hx : x.ev fr = some (.bool true) := by rfl) : AK P E Q (.c (.cond x t e) :: k) fr st := AK.cond hx (fun _ => h1) fun h => by cases h
theorem kCf {P : Program} {E : Env} {Q : Exit → Fr → St → Prop} {k : List AItem} {fr : Fr} {st : St} {x : Opd} {t e : ACode} (h1 : AK P E Q (.c e :: k) fr st) (hx : x.ev fr = some (.bool false) := by rfl) : AK P E Q (.c (.cond x t e) :: k) fr st := AK.cond hx (fun h => by cases h) fun _ => h1
theorem partsE_a : AC Tryd.prog 46 [(vA (emV))] (.int .i64 0) := by
 have hb := tbare_a emV
 rw [show (!kbad emV.kind emV.b emV.n emV.s emV.l.length emV.m.length) = true by decide +kernel] at hb
 have ht := treeText_a ⟨#[]⟩ (by decide)
 rw [show textB ⟨#[]⟩ = true by decide +kernel] at ht
 refine kE Tryd.func46 a_tree_parts_ok a_tree_parts_cb fun E hE => ?_
 refine kW ?_
 refine kQ [.v (.bool true)] ?_
 refine kCf ?_
 refine kW ?_
 refine kQ [.v (.bool true)] ?_
 refine kCf ?_
 refine kW ?_
 refine AK.loopI (fun _ : Unit => (frOf [(1, .ptr 1 0), (19, .lst .any 6 []), (20, .int .i64 0), (21, .int .i64 0)], ⟨boxOf [(1, (vC (emV)), false)], fun _ => 0⟩)) (fun _ => True) (fun _ => 0) () trivial (Weak.intro ⟨kI, kI, kI, kI, trivial⟩ ⟨kJ, trivial⟩ rfl rfl) fun _ _ => ?_
 refine kW ?_
 refine kCf ?_
 refine AK.exit rfl ?_
 refine kW ?_
 refine AK.loopI (fun _ : Unit => (frOf [(1, .ptr 1 0), (32, .lst .any 7 []), (33, .int .i64 0), (34, .int .i64 0)], ⟨boxOf [(1, (vC (emV)), false)], fun _ => 0⟩)) (fun _ => True) (fun _ => 0) () trivial (Weak.intro ⟨kI, kI, kI, kI, trivial⟩ ⟨kJ, trivial⟩ rfl rfl) fun _ _ => ?_
 refine kW ?_
 refine kCf ?_
 refine AK.exit rfl ?_
 refine kW ?_
 refine AK.ret ⟨_, rfl, ?_⟩
 rfl
theorem checkE_a : AC Tryd.prog 28 [(vA (emV))] (.int .i64 0) := by
 have h1 := treeDepth_a 1 emV (by decide +kernel) (by decide +kernel)
 have h2 := treeSize_a 1 emV (by decide +kernel) (by decide +kernel)
 rw [emV_depth] at h1
 rw [emV_size] at h2
 have h3 := partsE_a
 refine kE Tryd.func28 a_tree_Check_ok a_tree_Check_cb fun E hE => ?_
 refine kW ?_
 refine kQ [.v (.int .i64 1)] ?_
 refine kCf ?_
 refine kW ?_
 refine kQ [.v (.int .i64 1)] ?_
 refine kCf ?_
 refine kW ?_
 refine kQ [.v (.int .i64 0)] ?_
 refine kW ?_
 refine AK.ret ⟨_, rfl, ?_⟩
 rfl
abbrev idK (a b c : ByteArray) : List AV := [.str a, .str b, .str c]
def idOk (a b c : ByteArray) : Prop := (wordOkB a && wordOkB b && wordOkB c) = true ∧ a.size ≤ 64 ∧ b.size ≤ 64 ∧ c.size ≤ 64
theorem wrong_a {a b c : ByteArray} (h : idOk a b c) : AC Tryd.prog 16 [.agg (idK a b c), (vA (emV))] (.int .i64 0) := by
 have hr := right_a a b c (by have := h.2.1; omega) (by have := h.2.2.1; omega) (by have := h.2.2.2; omega)
 rw [h.1] at hr
 have hc := checkE_a
 refine kE Tryd.func16 a_cluster_wrong_ok a_cluster_wrong_cb fun E hE => ?_
 refine kW ?_
 refine kQ [.v (.bool true)] ?_
 refine kCf ?_
 refine kW ?_
 refine kQ [.v (.int .i64 0)] ?_
 refine kW ?_
 refine AK.ret ⟨_, rfl, ?_⟩
 rfl
end Go.Proofs.YtdncaodccgfniaaDoor
namespace Go.Proofs.YtdncaodccgfniaaDoor
open Go.RowKit Go.Maps Go.MapKept Go.ChangeMaps
theorem someClu (neg : Bool) (g o : Nat) : NilRun Tryd.prog neg 24 (.pointer (some ⟨g, o, none⟩)) (.pointer none) false := by
 intro w x y hk
 have hg : (eqGuard (eqOp neg) 24 x y (.pointer (some ⟨g, o, none⟩)) (.pointer none)).run Tryd.prog w = .ok () w := by
  cases x <;> cases y <;> first | (cases hk; done) | (cases neg <;> simp [go_sem, eqGuard, eqOp])
 cases neg
 ·exact ⟨hg, by simp [go_sem, eqOp]⟩
 ·exact ⟨hg, by simp [go_sem, eqOp]⟩
theorem nilMet (neg : Bool) : NilRun Tryd.prog neg 45 (.pointer none) (.pointer none) true := by
 intro w x y hk
 have hg : (eqGuard (eqOp neg) 45 x y (.pointer none) (.pointer none)).run Tryd.prog w = .ok () w := by
  cases x <;> cases y <;> first | (cases hk; done) | (cases neg <;> simp [go_sem, eqGuard, eqOp])
 cases neg
 ·exact ⟨hg, by simp [go_sem, eqOp]⟩
 ·exact ⟨hg, by simp [go_sem, eqOp]⟩
abbrev npC : AV := .raw (.pointer none)
theorem add_a (k : Int) : AC Tryd.prog 18 [npC, .int .i64 k] (.int .i64 0) := by
 refine kE Tryd.func18 a_meter_Meter_Add_ok a_meter_Meter_Add_cb fun E hE => ?_
 refine kW ?_
 refine kP [] ?_ ?_
 ·((repeat' apply And.intro) <;> first | exact kD | (intro hgd; refine ⟨?_, kG⟩; (repeat' apply And.intro) <;> first | exact kD | skip) | skip)
  ·exact nilMet false
 refine kCt ?_
 refine kW ?_
 refine AK.ret ⟨_, rfl, ?_⟩
 rfl
theorem index0_a (n : Int) : AC Tryd.prog 47 [.lst .any 1 [], .int .i64 n] (.int .i64 (-1)) := by
 refine kE Tryd.func47 a_slices_Index_int_ok a_slices_Index_int_cb fun E hE => ?_
 refine kW ?_
 refine AK.loopI (fun _ : Unit => (frOf [(0, .lst .any 1 []), (1, .int .i64 n), (7, .int .i64 0), (8, .int .i64 0)], ⟨boxOf [], fun _ => 0⟩)) (fun _ => True) (fun _ => 0) () trivial (Weak.intro ⟨kI, kI, kI, kI, trivial⟩ trivial rfl rfl) fun _ _ => ?_
 refine kW ?_
 refine kCf ?_
 refine AK.exit rfl ?_
 refine kW ?_
 refine AK.ret ⟨_, rfl, ?_⟩
 rfl
theorem contains0_a (n : Int) : AC Tryd.prog 29 [.lst .any 1 [], .int .i64 n] (.bool false) := by
 refine kE Tryd.func29 a_slices_Contains_int_ok a_slices_Contains_int_cb fun E hE => ?_
 refine kW ?_
 refine kP [.v (.int .i64 (-1))] ?_ ?_
 ·((repeat' apply And.intro) <;> first | exact kD | (intro hgd; refine ⟨?_, kG⟩; (repeat' apply And.intro) <;> first | exact kD | skip) | skip)
  ·exact index0_a n
 refine kW ?_
 refine AK.ret ⟨_, rfl, ?_⟩
 rfl
abbrev cluC (m : Nat) (last fuse : Int) (down : Bool) : List AV := [.np m 0, .int .i64 last, .lst .any 1 [], .int .i64 fuse, .bool down, npC]
abbrev cluS (c m : Nat) (rows : List MRow) (last fuse : Int) (down : Bool) : List (Nat × List AV) := [(c, cluC m last fuse down), (m, [mcA rows])]
def wrE (fuse : Int) (down : Bool) : Int := if (down || decide (fuse = 0)) = true then 31 else 0
def wrF (fuse : Int) (down : Bool) : Int := if (down || decide (fuse = 0)) = true then fuse else if 0 < fuse then fuse - 1 else fuse
def wrD (fuse : Int) (down : Bool) : Bool := down || decide (fuse = 0)
theorem wr_dead {fuse : Int} {down : Bool} (h : down = true ∨ fuse = 0) : wrE fuse down = 31 ∧ wrF fuse down = fuse ∧ wrD fuse down = true := by
 have e : (down || decide (fuse = 0)) = true := by simpa using h
 refine ⟨?_, ?_, e⟩
 ·rw [wrE, if_pos e]
 ·rw [wrF, if_pos e]
theorem wr_live {fuse : Int} (h : fuse ≠ 0) : wrE fuse false = 0 ∧ wrF fuse false = (if 0 < fuse then fuse - 1 else fuse) ∧ wrD fuse false = false := by
 have e : (false || decide (fuse = 0)) = false := by simpa using h
 refine ⟨?_, ?_, e⟩
 ·rw [wrE, e]; rfl
 ·rw [wrF, e]; rfl
theorem write_m (rows : List MRow) (last fuse : Int) (down : Bool) (hf : -1000 ≤ fuse ∧ fuse ≤ 1000) : MS Tryd.prog 17 (cluS 2000000 2900001 rows last fuse down) [.np 2000000 0] (cluS 2000000 2900001 rows last (wrF fuse down) (wrD fuse down)) (.int .i64 (wrE fuse down)) := by
 have hcn := contains0_a 0
 refine MS.enter Tryd.func17 a_cluster_Cluster_write_ok a_cluster_Cluster_write_cb (by rfl) (by rfl) fun E hE => ?_
 show AK _ _ _ [.c b_cluster_Cluster_write] _ _
 rw [b_cluster_Cluster_write]
 cases down with
 | true =>
  obtain ⟨e1, e2, e3⟩ := wr_dead (fuse := fuse) (down := true) (.inl rfl)
  rw [e1, e2, e3]
  refine kW ?_
  refine kP [] ?_ ?_
  ·((repeat' apply And.intro) <;> first | exact kD | (intro hgd; refine ⟨?_, kG⟩; (repeat' apply And.intro) <;> first | exact kD | skip) | skip)
   ·exact fun g o => someClu false g o
  refine kCf ?_
  refine kW ?_
  refine kQ [] ?_
  refine kCt ?_
  refine kW ?_
  exact AK.ret ⟨⟨_, rfl, rfl⟩, ⟨_, rfl, rfl⟩, ⟨_, rfl, rfl⟩, trivial⟩
 | false =>
  refine kW ?_
  refine kP [] ?_ ?_
  ·((repeat' apply And.intro) <;> first | exact kD | (intro hgd; refine ⟨?_, kG⟩; (repeat' apply And.intro) <;> first | exact kD | skip) | skip)
   ·exact fun g o => someClu false g o
  refine kCf ?_
  refine kW ?_
  refine kQ [] ?_
  refine kC (fun hb => ?_) fun hb => ?_
  ·obtain ⟨e1, e2, e3⟩ := wr_dead (fuse := fuse) (down := false) (.inr (by simpa using hb))
   rw [e1, e2, e3]
   refine kW ?_
   exact AK.ret ⟨⟨_, rfl, rfl⟩, ⟨_, rfl, rfl⟩, ⟨_, rfl, rfl⟩, trivial⟩
  ·obtain ⟨e1, e2, e3⟩ := wr_live (fuse := fuse) (by simpa using hb)
   rw [e1, e2, e3]
   refine kW ?_
   refine kC (fun hb => ?_) fun hb => ?_
   ·have hl : 0 < fuse := by simpa using hb
    rw [if_pos hl, show fuse - 1 = IntKind.i64.wrap (fuse - 1) from (wrap_in (by omega) (by omega)).symm]
    refine kW ?_
    refine kQ [.v (.bool false)] ?_
    refine kW ?_
    refine AK.loopI (fun _ : Unit => (frOf [(0, .np 2000000 0), (3, .bool false), (4, .lst .nil 1 []), (46, .lst .any 1 []), (47, .int .i64 0), (48, .int .i64 0)], ⟨boxOf [(2000000, cluC 2900001 last (IntKind.i64.wrap (fuse - 1)) false, false), (2900001, [mcA rows], false)], fun _ => 0⟩)) (fun _ => True) (fun _ => 0) () trivial (Weak.introN ⟨kI, kI, kI, kI, kI, kI, trivial⟩ ⟨kJ, kJ, trivial⟩ rfl rfl ⟨rfl, rfl, trivial⟩) fun _ _ => ?_
    refine kW ?_
    refine kCf ?_
    refine AK.exit rfl ?_
    refine kW ?_
    refine AK.weak (Weak.introN (L := [(0, .np 2000000 0), (64, .bool false)]) (BL := [(2000000, cluC 2900001 last (IntKind.i64.wrap (fuse - 1)) false, false), (2900001, [mcA rows], false)]) ⟨kI, kI, trivial⟩ ⟨⟨_, rfl, .refl _, .refl _, .any .nil 1 [], .refl _, .refl _, .refl _, trivial⟩, kJ, trivial⟩ rfl rfl ⟨rfl, rfl, trivial⟩) ?_
    refine kCf ?_
    refine kW ?_
    exact AK.ret ⟨⟨_, rfl, rfl⟩, ⟨_, rfl, rfl⟩, ⟨_, rfl, rfl⟩, trivial⟩
   ·have hl : ¬ 0 < fuse := by simpa using hb
    rw [if_neg hl]
    refine kW ?_
    refine kQ [.v (.bool false)] ?_
    refine kW ?_
    refine AK.loopI (fun _ : Unit => (frOf [(0, .np 2000000 0), (3, .bool false), (4, .lst .nil 1 []), (46, .lst .any 1 []), (47, .int .i64 0), (48, .int .i64 0)], ⟨boxOf [(2000000, cluC 2900001 last fuse false, false), (2900001, [mcA rows], false)], fun _ => 0⟩)) (fun _ => True) (fun _ => 0) () trivial (Weak.introN ⟨kI, kI, kI, kI, kI, kI, trivial⟩ ⟨kJ, kJ, trivial⟩ rfl rfl ⟨rfl, rfl, trivial⟩) fun _ _ => ?_
    refine kW ?_
    refine kCf ?_
    refine AK.exit rfl ?_
    refine kW ?_
    refine AK.weak (Weak.introN (L := [(0, .np 2000000 0), (64, .bool false)]) (BL := [(2000000, cluC 2900001 last fuse false, false), (2900001, [mcA rows], false)]) ⟨kI, kI, trivial⟩ ⟨⟨_, rfl, .refl _, .refl _, .any .nil 1 [], .refl _, .refl _, .refl _, trivial⟩, kJ, trivial⟩ rfl rfl ⟨rfl, rfl, trivial⟩) ?_
    refine kCf ?_
    refine kW ?_
    exact AK.ret ⟨⟨_, rfl, rfl⟩, ⟨_, rfl, rfl⟩, ⟨_, rfl, rfl⟩, trivial⟩
end Go.Proofs.YtdncaodccgfniaaDoor
namespace Go.Proofs.YtdncaodccgfniaaDoor
open Go.RowKit
structure OId where
 k : ByteArray
 s : ByteArray
 n : ByteArray
deriving DecidableEq
structure CEnt where
 id : OId
 body : V
 ver : Int
structure Clu where
 has : List CEnt
 last : Int
 fails : List Int
 fuse : Int
 down : Bool
def Clu.find (c : Clu) (id : OId) : Option CEnt := c.has.find? fun e => decide (e.id = id)
def Clu.write (c : Clu) : Int × Clu :=
 if (c.down || decide (c.fuse = 0)) = true then (31, { c with down := true })
 else ((if (0 : Int) ∈ c.fails then 30 else 0), { c with fuse := (if 0 < c.fuse then c.fuse - 1 else c.fuse), fails := (c.fails.filter fun n => decide (0 < n)).map fun n => n - 1 })
def putE (l : List CEnt) (e : CEnt) : List CEnt := if l.any (fun x => decide (x.id = e.id)) = true then l.map (fun x => if x.id = e.id then e else x) else l ++ [e]
def Clu.put (c : Clu) (id : OId) (v : V) : Clu := { c with last := c.last + 1, has := putE c.has ⟨id, v, c.last + 1⟩ }
def Clu.create (c : Clu) (wr : Int) (id : OId) (v : V) : Int × Clu :=
 if wr ≠ 0 then (wr, c) else if c.write.1 ≠ 0 then c.write else if (c.find id).isSome = true then (4, c.write.2) else (0, c.write.2.put id v)
def Clu.new : Clu := ⟨[], 0, [], -1, false⟩
theorem write_has (c : Clu) : c.write.2.has = c.has ∧ c.write.2.last = c.last := by unfold Clu.write; split <;> exact ⟨rfl, rfl⟩
theorem find_none {c : Clu} {id : OId} : c.find id = none ↔ ∀ e ∈ c.has, e.id ≠ id := by
 unfold Clu.find
 rw [List.find?_eq_none]
 simp
theorem putE_new {l : List CEnt} {e : CEnt} (h : ∀ x ∈ l, x.id ≠ e.id) : putE l e = l ++ [e] := by
 unfold putE
 rw [if_neg]
 simpa using h
def creates (ids : Nat → OId) (v : V) (c : Clu) : Nat → Clu
 | 0 => c
 | k + 1 => ((creates ids v c k).create 0 (ids k) v).2
theorem creates_ids {ids : Nat → OId} {v : V} {c : Clu} (hc : ∀ e ∈ c.has, ∀ i, e.id ≠ ids i) : ∀ k, ∀ e ∈ (creates ids v c k).has, (∀ i, e.id ≠ ids i) ∨ ∃ i, i < k ∧ e.id = ids i
 | 0 => fun e he => .inl (hc e he)
 | k + 1 => fun e he => by
  have ih := creates_ids (v := v) hc k
  unfold creates Clu.create at he
  rw [if_neg (by simp)] at he
  have up : ((∀ i, e.id ≠ ids i) ∨ ∃ i, i < k ∧ e.id = ids i) → (∀ i, e.id ≠ ids i) ∨ ∃ i, i < k + 1 ∧ e.id = ids i := fun h => h.imp _root_.id fun ⟨i, h1, h2⟩ => ⟨i, by omega, h2⟩
  split at he
  ·rw [(write_has _).1] at he; exact up (ih e he)
  ·split at he
   ·rw [(write_has _).1] at he; exact up (ih e he)
   ·simp only [Clu.put] at he
    rw [(write_has _).1] at he
    unfold putE at he
    split at he
    ·obtain ⟨x, hx, rfl⟩ := List.mem_map.1 he
     split
     ·exact .inr ⟨k, by omega, rfl⟩
     ·rename_i hne
      rcases ih x hx with h | ⟨i, h1, h2⟩
      ·exact .inl h
      ·exact .inr ⟨i, by omega, h2⟩
    ·rcases List.mem_append.1 he with he | he
     ·exact up (ih e he)
     ·rw [List.mem_singleton.1 he]; exact .inr ⟨k, by omega, rfl⟩
theorem creates_new {ids : Nat → OId} {v : V} {c : Clu} (hc : ∀ e ∈ c.has, ∀ i, e.id ≠ ids i) {k : Nat} (hne : ∀ i, i < k → ids i ≠ ids k) : (creates ids v c k).find (ids k) = none := by
 rw [find_none]
 intro e he
 rcases creates_ids hc k e he with h | ⟨i, h1, h2⟩
 ·exact h k
 ·rw [h2]; exact hne i h1
theorem create_new {c : Clu} {id : OId} (v : V) (h : c.find id = none) : c.create 0 id v = if c.write.1 ≠ 0 then c.write else (0, c.write.2.put id v) := by
 unfold Clu.create
 rw [if_neg (by simp), h]
 simp
theorem put_len {c : Clu} {id : OId} (v : V) (h : c.find id = none) : (c.put id v).has.length = c.has.length + 1 := by
 unfold Clu.put
 rw [putE_new (fun x hx => find_none.1 h x hx)]
 simp
def failed (ids : Nat → OId) (v : V) (fs : List Nat) (k : Nat) : Clu := creates ids v { Clu.new with fails := fs.map (fun n : Nat => (n : Int)) ++ [-1] } k
def byN (fs : List Nat) : Nat → Nat
 | 0 => 0
 | k + 1 => byN fs k + (if k ∈ fs then 0 else 1)
theorem failed_at {ids : Nat → OId} {v : V} {fs : List Nat} (hne : ∀ i j, i < j → ids i ≠ ids j) : ∀ k, (failed ids v fs k).down = false ∧ (failed ids v fs k).fuse = -1 ∧ (failed ids v fs k).has.length = byN fs k ∧ (∀ x : Int, x ∈ (failed ids v fs k).fails ↔ (∃ n ∈ fs, k ≤ n ∧ x = (n : Int) - k) ∨ (k = 0 ∧ x = -1))
 | 0 => by
  refine ⟨rfl, rfl, rfl, fun x => ?_⟩
  show x ∈ fs.map (fun n : Nat => (n : Int)) ++ [-1] ↔ _
  rw [List.mem_append, List.mem_map, List.mem_singleton]
  refine or_congr ⟨fun ⟨n, hn, e⟩ => ⟨n, hn, by omega, by omega⟩, fun ⟨n, hn, _, e⟩ => ⟨n, hn, by omega⟩⟩ ⟨fun h => ⟨rfl, h⟩, fun h => h.2⟩
 | k + 1 => by
  obtain ⟨h1, h2, h3, h4⟩ := failed_at (v := v) (fs := fs) hne k
  have hn : (failed ids v fs k).find (ids k) = none := creates_new (fun e he => by simp [Clu.new] at he) fun i hi => hne i k hi
  have e : failed ids v fs (k + 1) = ((failed ids v fs k).create 0 (ids k) v).2 := rfl
  rw [create_new v hn] at e
  have hp := put_len (c := (failed ids v fs k).write.2) (id := ids k) v (by rw [find_none, (write_has _).1]; exact find_none.1 hn)
  rw [(write_has _).1] at hp
  have hz : (0 : Int) ∈ (failed ids v fs k).fails ↔ k ∈ fs := by
   rw [h4]
   exact ⟨fun h => by
    rcases h with ⟨n, hn, _, e⟩ | ⟨_, e⟩
    ·rwa [show k = n by omega]
    ·omega, fun h => .inl ⟨k, h, Nat.le_refl _, by omega⟩⟩
  have hmem : ∀ x : Int, x ∈ (((failed ids v fs k).fails.filter fun n => decide (0 < n)).map fun n => n - 1) ↔ (∃ n ∈ fs, k + 1 ≤ n ∧ x = (n : Int) - (k + 1 : Nat)) ∨ (k + 1 = 0 ∧ x = -1) := fun x => by
   rw [List.mem_map]
   constructor
   ·rintro ⟨y, hy, rfl⟩
    rw [List.mem_filter, h4] at hy
    obtain ⟨hy, hpos⟩ := hy
    have hpos : 0 < y := by simpa using hpos
    rcases hy with ⟨n, hn, _, e⟩ | ⟨_, e⟩
    ·exact .inl ⟨n, hn, by omega, by omega⟩
    ·omega
   ·rintro (⟨n, hn, hk, e⟩ | ⟨h, _⟩)
    ·exact ⟨(n : Int) - k, List.mem_filter.2 ⟨(h4 _).2 (.inl ⟨n, hn, by omega, rfl⟩), by simp; omega⟩, by omega⟩
    ·omega
  generalize failed ids v fs k = c at *
  have hw : c.write = ((if (0 : Int) ∈ c.fails then 30 else 0), { c with fails := (c.fails.filter fun n => decide (0 < n)).map fun n => n - 1 }) := by
   unfold Clu.write
   rw [h1, h2, if_neg (by simp)]
   rw [if_neg (show ¬ (0 : Int) < -1 by omega), ← h2]
  rw [hw] at e hp
  by_cases hk : k ∈ fs
  ·rw [if_pos (hz.2 hk), if_pos (by simp)] at e
   rw [e]
   exact ⟨h1, h2, by rw [byN, if_pos hk]; exact h3, hmem⟩
  ·rw [if_neg (fun h => hk (hz.1 h)), if_neg (by simp)] at e
   rw [e]
   exact ⟨h1, h2, by rw [byN, if_neg hk, ← h3]; exact hp, hmem⟩
def CQ (f0 : Fr) (s0 : St) : Exit → Fr → St → Prop
 | .normal => fun f s => Weak f s f0 s0
 | _ => fun _ _ => False
theorem AK.cut {P : Program} {E : Env} {Q : Exit → Fr → St → Prop} {k : List AItem} {fr : Fr} {st : St} {a : ACode} (f0 : Fr) (s0 : St) (h1 : AK P E (CQ f0 s0) [.c a] fr st) (h2 : AK P E Q k f0 s0) : AK P E Q (.c a :: k) fr st := by
 intro hd mu c G ac w hc hd2 hC
 refine wp_mono (h1 hd mu c G ac w hc hd2 hC) fun e a2 w2 ⟨G3, f, s, hC3, hQ⟩ => ?_
 cases e with
 | normal =>
  obtain ⟨G4, hC4⟩ := (show Weak f s f0 s0 from hQ) E G3 a2 w2 hC3
  exact ⟨G4, f0, s0, hC4, h2⟩
 | exit id => exact (show False from hQ).elim
 | goto l => exact (show False from hQ).elim
 | ret => exact (show False from hQ).elim
 | panic ch => exact (show False from hQ).elim
 | outgrown => exact (show False from hQ).elim
theorem AK.cutEnd {P : Program} {E : Env} {fr : Fr} {st : St} {f0 : Fr} {s0 : St} (h : Weak fr st f0 s0) : AK P E (CQ f0 s0) [] fr st := h
def rowsJ (l : List Int) : List (List AV) := l.map fun n => [.int .i64 n]
theorem rowsJ_len (l : List Int) : (rowsJ l).length = l.length := List.length_map _
theorem rowsJ_at {l : List Int} {k : Nat} {n : Int} (h : l[k]? = some n) : (rowsJ l)[k]? = some [.int .i64 n] := by simp [rowsJ, h]
theorem rowsJ_snoc (l : List Int) (n : Int) : rowsJ (l ++ [n]) = rowsJ l ++ [[.int .i64 n]] := by unfold rowsJ; rw [List.map_append]; rfl
def idxJ (n : Int) : List Int → Nat → Int
 | [], _ => -1
 | x :: l, k => if x = n then k else idxJ n l (k + 1)
theorem idxJ_mem (n : Int) : ∀ (l : List Int) (k : Nat), (0 ≤ idxJ n l k) ↔ n ∈ l
 | [], k => by simp [idxJ]
 | x :: l, k => by
  unfold idxJ
  by_cases h : x = n
  ·rw [if_pos h]
   simp [h]
  ·rw [if_neg h, idxJ_mem n l (k + 1)]
   simp only [List.mem_cons]
   exact ⟨.inr, fun h2 => h2.resolve_left (fun e => h e.symm)⟩
theorem idxJ_drop {n : Int} {l : List Int} {k : Nat} {x : Int} (h : l[k]? = some x) : idxJ n (l.drop k) k = if x = n then (k : Int) else idxJ n (l.drop (k + 1)) (k + 1) := by
 obtain ⟨hk, e⟩ := List.getElem?_eq_some_iff.1 h
 rw [List.drop_eq_getElem_cons hk, e]
 rfl
theorem index_j (n : Int) (l : List Int) (hl : l.length ≤ 1000000) : AC Tryd.prog 47 [.lst .any 1 (rowsJ l), .int .i64 n] (.int .i64 (idxJ n l 0)) := by
 refine kE Tryd.func47 a_slices_Index_int_ok a_slices_Index_int_cb fun E hE => ?_
 refine kW ?_
 refine AK.loopI (fun k : Nat => (frOf [(0, .lst .any 1 (rowsJ l)), (1, .int .i64 n), (7, .int .i64 (rowsJ l).length), (8, .int .i64 k)], ⟨boxOf [], fun _ => 0⟩)) (fun k => k ≤ l.length ∧ idxJ n l 0 = idxJ n (l.drop k) k) (fun k => l.length - k) 0 ⟨Nat.zero_le _, rfl⟩ (Weak.intro ⟨kI, kI, kI, kI, trivial⟩ trivial rfl rfl) fun k hk => ?_
 obtain ⟨hk, hix⟩ := hk
 refine kW ?_
 refine kC (fun hb => ?_) fun hb => ?_
 ·have hlt : k < l.length := by simpa [rowsJ_len] using hb
  obtain ⟨x, hg⟩ : ∃ x, l[k]? = some x := ⟨_, List.getElem?_eq_getElem hlt⟩
  rw [idxJ_drop hg] at hix
  refine kW ?_
  refine kP [.c [.int .i64 x]] ?_ ?_
  ·((repeat' apply And.intro) <;> first | exact kD | (intro hgd; refine ⟨?_, kG⟩; (repeat' apply And.intro) <;> first | exact kD | skip) | skip)
   all_goals exact rowsJ_at hg
  refine kW ?_
  refine kC (fun hb => ?_) fun hb => ?_
  ·have hx : x = n := ((by simpa using hb : n = x)).symm
   rw [if_pos hx] at hix
   refine kW ?_
   refine AK.ret ⟨_, rfl, ?_⟩
   rw [hix]
   rfl
  ·have hx : x ≠ n := fun h => ((by simpa using hb : ¬ n = x)) h.symm
   rw [if_neg hx] at hix
   refine kW ?_
   exact AK.lp ⟨k + 1, ⟨by omega, hix⟩, Weak.intro ⟨kI, kI, kI, kU, trivial⟩ trivial rfl rfl, by omega⟩
 ·have hlt : k = l.length := by
   have : l.length ≤ k := by simpa [rowsJ_len] using hb
   omega
  subst hlt
  rw [List.drop_length] at hix
  refine AK.exit rfl ?_
  refine kW ?_
  refine AK.ret ⟨_, rfl, ?_⟩
  rw [hix]
  rfl
theorem contains_j (n : Int) (l : List Int) (hl : l.length ≤ 1000000) : AC Tryd.prog 29 [.lst .any 1 (rowsJ l), .int .i64 n] (.bool (decide (n ∈ l))) := by
 have hi := index_j n l hl
 refine kE Tryd.func29 a_slices_Contains_int_ok a_slices_Contains_int_cb fun E hE => ?_
 refine kW ?_
 refine kQ [.v (.int .i64 (idxJ n l 0))] ?_
 refine kW ?_
 refine AK.ret ⟨_, rfl, ?_⟩
 show AV.bool (decide (idxJ n l 0 ≥ 0)) = _
 congr 1
 exact decide_eq_decide.2 (idxJ_mem n l 0)
def leftJ (l : List Int) : List Int := (l.filter fun n => decide (0 < n)).map fun n => n - 1
theorem leftJ_take {l : List Int} {k : Nat} {n : Int} (h : l[k]? = some n) : leftJ (l.take (k + 1)) = leftJ (l.take k) ++ if 0 < n then [n - 1] else [] := by
 unfold leftJ
 rw [List.take_add_one, h]
 simp only [Option.toList]
 rw [List.filter_append, List.map_append]
 congr 1
 by_cases hn : 0 < n
 ·rw [if_pos hn, List.filter_cons_of_pos (by simpa using hn)]
  rfl
 ·rw [if_neg hn, List.filter_cons_of_neg (by simpa using hn)]
  rfl
theorem leftJ_len (l : List Int) : (leftJ l).length ≤ l.length := by
 unfold leftJ
 rw [List.length_map]
 exact List.length_filter_le _ _
end Go.Proofs.YtdncaodccgfniaaDoor
