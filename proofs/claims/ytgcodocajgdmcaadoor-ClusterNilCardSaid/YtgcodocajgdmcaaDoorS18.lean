/-
  The texts that the claim wants, one behind the other: part 18.
-/
import Derived.Test.YtgcodocajgdmcaaDoorS17
import Derived.DeepKeys4
import Derived.Test.YtgcodocajgdmcaaDoorChecked
import Derived.KernelRfl
import Derived.BigQuiet
set_option linter.unusedSimpArgs false
set_option linter.unusedVariables false
namespace Go.Proofs.YtgcodocajgdmcaaDoor
open Go.RowKit Go.Maps Go.MapKept Go.ChangeMaps
theorem nilClu (neg : Bool) : NilRun Tryd.prog neg 22 (.pointer none) (.pointer none) true := by
 intro w x y hk
 have hg : (eqGuard (eqOp neg) 22 x y (.pointer none) (.pointer none)).run Tryd.prog w = .ok () w := by
  cases x <;> cases y <;> first | (cases hk; done) | (cases neg <;> simp [go_sem, eqGuard, eqOp])
 cases neg
 ·exact ⟨hg, by simp [go_sem, eqOp]⟩
 ·exact ⟨hg, by simp [go_sem, eqOp]⟩
theorem someClu (neg : Bool) (g o : Nat) : NilRun Tryd.prog neg 22 (.pointer (some ⟨g, o, none⟩)) (.pointer none) false := by
 intro w x y hk
 have hg : (eqGuard (eqOp neg) 22 x y (.pointer (some ⟨g, o, none⟩)) (.pointer none)).run Tryd.prog w = .ok () w := by
  cases x <;> cases y <;> first | (cases hk; done) | (cases neg <;> simp [go_sem, eqGuard, eqOp])
 cases neg
 ·exact ⟨hg, by simp [go_sem, eqOp]⟩
 ·exact ⟨hg, by simp [go_sem, eqOp]⟩
theorem nilMet (neg : Bool) : NilRun Tryd.prog neg 62 (.pointer none) (.pointer none) true := by
 intro w x y hk
 have hg : (eqGuard (eqOp neg) 62 x y (.pointer none) (.pointer none)).run Tryd.prog w = .ok () w := by
  cases x <;> cases y <;> first | (cases hk; done) | (cases neg <;> simp [go_sem, eqGuard, eqOp])
 cases neg
 ·exact ⟨hg, by simp [go_sem, eqOp]⟩
 ·exact ⟨hg, by simp [go_sem, eqOp]⟩
abbrev npC : AV := .raw (.pointer none)
theorem add_a (k : Int) : AC Tryd.prog 28 [npC, .int .i64 k] (.int .i64 0) := by
 refine kE Tryd.func28 a_meter_Meter_Add_ok a_meter_Meter_Add_cb fun E hE => ?_
 refine kW ?_
 refine kP [] ?_ ?_
 ·((repeat' apply And.intro) <;> first | exact kD | (intro hgd; refine ⟨?_, kG⟩; (repeat' apply And.intro) <;> first | exact kD | skip) | skip)
  ·exact nilMet false
 refine kCt ?_
 refine kW ?_
 refine AK.ret ⟨_, rfl, ?_⟩
 rfl
theorem index0_a (n : Int) : AC Tryd.prog 80 [.lst .any 1 [], .int .i64 n] (.int .i64 (-1)) := by
 refine kE Tryd.func80 a_slices_Index_int_ok a_slices_Index_int_cb fun E hE => ?_
 refine kW ?_
 refine AK.loopI (fun _ : Unit => (frOf [(0, .lst .any 1 []), (1, .int .i64 n), (7, .int .i64 0), (8, .int .i64 0)], ⟨boxOf [], fun _ => 0⟩)) (fun _ => True) (fun _ => 0) () trivial (Weak.intro ⟨kI, kI, kI, kI, trivial⟩ trivial rfl rfl) fun _ _ => ?_
 refine kW ?_
 refine kCf ?_
 refine AK.exit rfl ?_
 refine kW ?_
 refine AK.ret ⟨_, rfl, ?_⟩
 rfl
theorem contains0_a (n : Int) : AC Tryd.prog 57 [.lst .any 1 [], .int .i64 n] (.bool false) := by
 refine kE Tryd.func57 a_slices_Contains_int_ok a_slices_Contains_int_cb fun E hE => ?_
 refine kW ?_
 refine kP [.v (.int .i64 (-1))] ?_ ?_
 ·((repeat' apply And.intro) <;> first | exact kD | (intro hgd; refine ⟨?_, kG⟩; (repeat' apply And.intro) <;> first | exact kD | skip) | skip)
  ·exact index0_a n
 refine kW ?_
 refine AK.ret ⟨_, rfl, ?_⟩
 rfl
abbrev cluC (m : Nat) (last fuse : Int) (down : Bool) : List AV := [.np m 0, .int .i64 last, .lst .any 1 [], .int .i64 fuse, .bool down, npC]
abbrev cluS (c m : Nat) (rows : List MRow) (last fuse : Int) (down : Bool) : List (Nat × List AV) := [(c, cluC m last fuse down), (m, [mcA rows])]
def wrE (fuse : Int) (down : Bool) : Int := if (down || decide (fuse = 0)) = true then 31 else 0
def wrF (fuse : Int) (down : Bool) : Int := if (down || decide (fuse = 0)) = true then fuse else if 0 < fuse then fuse - 1 else fuse
def wrD (fuse : Int) (down : Bool) : Bool := down || decide (fuse = 0)
theorem wr_dead {fuse : Int} {down : Bool} (h : down = true ∨ fuse = 0) : wrE fuse down = 31 ∧ wrF fuse down = fuse ∧ wrD fuse down = true := by
 have e : (down || decide (fuse = 0)) = true := by simpa using h
 refine ⟨?_, ?_, e⟩
 ·rw [wrE, if_pos e]
 ·rw [wrF, if_pos e]
theorem wr_live {fuse : Int} (h : fuse ≠ 0) : wrE fuse false = 0 ∧ wrF fuse false = (if 0 < fuse then fuse - 1 else fuse) ∧ wrD fuse false = false := by
 have e : (false || decide (fuse = 0)) = false := by simpa using h
 refine ⟨?_, ?_, e⟩
 ·rw [wrE, e]; rfl
 ·rw [wrF, e]; rfl
theorem write_m (rows : List MRow) (last fuse : Int) (down : Bool) (hf : -1000 ≤ fuse ∧ fuse ≤ 1000) : MS Tryd.prog 31 (cluS 2000000 2900001 rows last fuse down) [.np 2000000 0] (cluS 2000000 2900001 rows last (wrF fuse down) (wrD fuse down)) (.int .i64 (wrE fuse down)) := by
 have hcn := contains0_a 0
 refine MS.enter Tryd.func31 a_cluster_Cluster_write_ok a_cluster_Cluster_write_cb (by rfl) (by rfl) fun E hE => ?_
 show AK _ _ _ [.c b_cluster_Cluster_write] _ _
 rw [b_cluster_Cluster_write]
 cases down with
 | true =>
  obtain ⟨e1, e2, e3⟩ := wr_dead (fuse := fuse) (down := true) (.inl rfl)
  rw [e1, e2, e3]
  refine kW ?_
  refine kP [] ?_ ?_
  ·((repeat' apply And.intro) <;> first | exact kD | (intro hgd; refine ⟨?_, kG⟩; (repeat' apply And.intro) <;> first | exact kD | skip) | skip)
   ·exact fun g o => someClu false g o
  refine kCf ?_
  refine kW ?_
  refine kQ [] ?_
  refine kCt ?_
  refine kW ?_
  exact AK.ret ⟨⟨_, rfl, rfl⟩, ⟨_, rfl, rfl⟩, ⟨_, rfl, rfl⟩, trivial⟩
 | false =>
  refine kW ?_
  refine kP [] ?_ ?_
  ·((repeat' apply And.intro) <;> first | exact kD | (intro hgd; refine ⟨?_, kG⟩; (repeat' apply And.intro) <;> first | exact kD | skip) | skip)
   ·exact fun g o => someClu false g o
  refine kCf ?_
  refine kW ?_
  refine kQ [] ?_
  refine kC (fun hb => ?_) fun hb => ?_
  ·obtain ⟨e1, e2, e3⟩ := wr_dead (fuse := fuse) (down := false) (.inr (by simpa using hb))
   rw [e1, e2, e3]
   refine kW ?_
   exact AK.ret ⟨⟨_, rfl, rfl⟩, ⟨_, rfl, rfl⟩, ⟨_, rfl, rfl⟩, trivial⟩
  ·obtain ⟨e1, e2, e3⟩ := wr_live (fuse := fuse) (by simpa using hb)
   rw [e1, e2, e3]
   refine kW ?_
   refine kC (fun hb => ?_) fun hb => ?_
   ·have hl : 0 < fuse := by simpa using hb
    rw [if_pos hl, show fuse - 1 = IntKind.i64.wrap (fuse - 1) from (wrap_in (by omega) (by omega)).symm]
    refine kW ?_
    refine kQ [.v (.bool false)] ?_
    refine kW ?_
    refine AK.loopI (fun _ : Unit => (frOf [(0, .np 2000000 0), (3, .bool false), (4, .lst .nil 1 []), (46, .lst .any 1 []), (47, .int .i64 0), (48, .int .i64 0)], ⟨boxOf [(2000000, cluC 2900001 last (IntKind.i64.wrap (fuse - 1)) false, false), (2900001, [mcA rows], false)], fun _ => 0⟩)) (fun _ => True) (fun _ => 0) () trivial (Weak.introN ⟨kI, kI, kI, kI, kI, kI, trivial⟩ ⟨kJ, kJ, trivial⟩ rfl rfl ⟨rfl, rfl, trivial⟩) fun _ _ => ?_
    refine kW ?_
    refine kCf ?_
    refine AK.exit rfl ?_
    refine kW ?_
    refine AK.weak (Weak.introN (L := [(0, .np 2000000 0), (64, .bool false)]) (BL := [(2000000, cluC 2900001 last (IntKind.i64.wrap (fuse - 1)) false, false), (2900001, [mcA rows], false)]) ⟨kI, kI, trivial⟩ ⟨⟨_, rfl, .refl _, .refl _, .any .nil 1 [], .refl _, .refl _, .refl _, trivial⟩, kJ, trivial⟩ rfl rfl ⟨rfl, rfl, trivial⟩) ?_
    refine kCf ?_
    refine kW ?_
    exact AK.ret ⟨⟨_, rfl, rfl⟩, ⟨_, rfl, rfl⟩, ⟨_, rfl, rfl⟩, trivial⟩
   ·have hl : ¬ 0 < fuse := by simpa using hb
    rw [if_neg hl]
    refine kW ?_
    refine kQ [.v (.bool false)] ?_
    refine kW ?_
    refine AK.loopI (fun _ : Unit => (frOf [(0, .np 2000000 0), (3, .bool false), (4, .lst .nil 1 []), (46, .lst .any 1 []), (47, .int .i64 0), (48, .int .i64 0)], ⟨boxOf [(2000000, cluC 2900001 last fuse false, false), (2900001, [mcA rows], false)], fun _ => 0⟩)) (fun _ => True) (fun _ => 0) () trivial (Weak.introN ⟨kI, kI, kI, kI, kI, kI, trivial⟩ ⟨kJ, kJ, trivial⟩ rfl rfl ⟨rfl, rfl, trivial⟩) fun _ _ => ?_
    refine kW ?_
    refine kCf ?_
    refine AK.exit rfl ?_
    refine kW ?_
    refine AK.weak (Weak.introN (L := [(0, .np 2000000 0), (64, .bool false)]) (BL := [(2000000, cluC 2900001 last fuse false, false), (2900001, [mcA rows], false)]) ⟨kI, kI, trivial⟩ ⟨⟨_, rfl, .refl _, .refl _, .any .nil 1 [], .refl _, .refl _, .refl _, trivial⟩, kJ, trivial⟩ rfl rfl ⟨rfl, rfl, trivial⟩) ?_
    refine kCf ?_
    refine kW ?_
    exact AK.ret ⟨⟨_, rfl, rfl⟩, ⟨_, rfl, rfl⟩, ⟨_, rfl, rfl⟩, trivial⟩
theorem keyedID : Keyed Tryd.prog 26 := Keyed.of_law (deep_law_laid (by kernel_rfl) (m := 2) (by omega) (of_decide_eq_true (by kernel_rfl)) (by kernel_rfl) (by rw [Tryd.underlying26]))
def KeyI (a b c : ByteArray) : Prop := ∃ l, keyOf Tryd.prog 26 (.agg #[.string a, .string b, .string c]) = some l
theorem keyV_id (a b c : ByteArray) : keyV (idK a b c) = some (.agg #[.string a, .string b, .string c]) := rfl
abbrev zE : List AV := [.int .i64 0, .bool false, .int .i64 0, .str ⟨#[]⟩, .lst .any 6 [], .lst .any 7 [], .int .i64 0]
abbrev zV : Value := .agg #[.int .i64 0, .bool false, .int .i64 0, .string ⟨#[]⟩, .slice none 0 0, .slice none 0 0, .int .i64 0]
theorem zero_e (w : World) : (zeroValue 67).run Tryd.prog w = .ok zV w := by kernel_rfl
theorem rel_none (σ : Sg) (esz : Nat) : Rel1 σ (.slice none 0 0) (.lst .any esz []) := .lst .any esz [] none 0 0 0 0 (fun _ _ => undef) rfl (Nat.le_refl _) (fun h => by omega) (fun i c h => by simp at h) (fun i j h => by omega) (fun i j c a h => by simp at h) trivial
theorem zero_relE (σ : Sg) : RelP σ zV (valA zE) := ⟨_, rfl, .cons (.int _ _) (.cons (.bool _) (.cons (.int _ _) (.cons (.str _) (.cons (rel_none σ 6) (.cons (rel_none σ 7) (.cons (.int _ _) .nil))))))⟩
abbrev cM : List AV := (vC (emV))
abbrev enA (n : Int) : List AV := [.int .i64 5, .bool false, .int .i64 0, .str ⟨#[]⟩, .lst .any 6 [], .lst .any 7 [], .int .i64 n]
theorem get_m {rows : List MRow} {a b c : ByteArray} (hk : KeysOk Tryd.prog 26 rows) (h : KeyI a b c) : (Found rows (idK a b c) none → MOp Tryd.prog (.get 61 true) [(2900001, [mcA rows])] [.np 2900001 0, .agg (idK a b c)] [(2900001, [mcA rows])] (.tup [.agg zE, .bool false])) ∧
  (∀ n, Found rows (idK a b c) (some (enA n)) → MOp Tryd.prog (.get 61 true) [(2900001, [mcA rows])] [.np 2900001 0, .agg (idK a b c)] [(2900001, [mcA rows])] (.tup [.agg (enA n), .bool true])) := by
 obtain ⟨l, hl⟩ := h
 have ht : ∀ z : List AV, z = zE ∨ (∃ n, z = enA n) → ∀ c ∈ z, c.isTup = false := by
  rintro z (rfl | ⟨n, rfl⟩) c hc <;> (simp at hc; rcases hc with rfl | rfl | rfl | rfl | rfl | rfl | rfl <;> rfl)
 exact ⟨fun ho => mop_get (z := zE) (o := none) true rfl Tryd.underlying61 keyedID hk (keyV_id a b c) hl zero_e zero_relE ho (ht _ (.inl rfl)),
  fun n ho => mop_get (z := zE) (o := some (enA n)) true rfl Tryd.underlying61 keyedID hk (keyV_id a b c) hl zero_e zero_relE ho (ht _ (.inr ⟨n, rfl⟩))⟩
theorem set_m {rows : List MRow} {a b c : ByteArray} (hk : KeysOk Tryd.prog 26 rows) (h : KeyI a b c) (n : Int) : MOp Tryd.prog (.set 61) [(2900001, [mcA rows])] [.np 2900001 0, .agg (idK a b c), .agg (enA n)] [(2900001, [mcA (putR rows (idK a b c) (enA n))])] (.bool true) := by
 obtain ⟨l, hl⟩ := h
 exact mop_set (vc := enA n) rfl Tryd.underlying61 keyedID hk (keyV_id a b c) hl fun c hc => by
  simp at hc
  rcases hc with rfl | rfl | rfl | rfl | rfl | rfl | rfl <;> rfl
theorem put_m {rows : List MRow} {a b c : ByteArray} (hk : KeysOk Tryd.prog 26 rows) (h : KeyI a b c) (last fuse : Int) (down : Bool) (hl : -1000 ≤ last ∧ last ≤ 1000) :
  MS Tryd.prog 32 (cluS 2000000 2900001 rows last fuse down) [.np 2000000 0, .agg (idK a b c), (vA (emV))] (cluS 2000000 2900001 (putR rows (idK a b c) (enA (last + 1))) (last + 1) fuse down) (.tup []) := by
 have hc : AC Tryd.prog 29 [(vA (emV))] ((vA (emV))) := clone_ok emV (by decide +kernel)
 rw [show last + 1 = IntKind.i64.wrap (last + 1) from (wrap_in (by omega) (by omega)).symm]
 have hs := set_m hk h (IntKind.i64.wrap (last + 1))
 refine MS.enter Tryd.func32 a_cluster_Cluster_put_ok a_cluster_Cluster_put_cb (by rfl) (by rfl) fun E hE => ?_
 show AK _ _ _ [.c b_cluster_Cluster_put] _ _
 rw [b_cluster_Cluster_put]
 refine kW ?_
 refine kQ [.v ((vA (emV))), .s [2900001] [(2900001, [mcA (putR rows (idK a b c) (enA (IntKind.i64.wrap (last + 1))))])] (.bool true)] ?_
 refine kW ?_
 show RQS _ _ _ .normal _ _
 exact ⟨⟨_, rfl, rfl⟩, ⟨_, rfl, rfl⟩, ⟨_, rfl, rfl⟩, trivial⟩
abbrev zA : List AV := [.int .i64 0, .bool false, .int .i64 0, .str ⟨#[]⟩, .lst .nil 6 [], .lst .nil 7 []]
set_option maxHeartbeats 20000000 in
theorem create_m {rows : List MRow} {a b c : ByteArray} (hk : KeysOk Tryd.prog 26 rows) (h : KeyI a b c) (hi : idOk a b c) (ho : Found rows (idK a b c) none) (last fuse : Int) (hl : -1000 ≤ last ∧ last ≤ 1000) (hf : -1000 ≤ fuse ∧ fuse ≤ 1000) (h0 : fuse ≠ 0) :
  MS Tryd.prog 12 (cluS 2000000 2900001 rows last fuse false) [.np 2000000 0, .agg (idK a b c), (vA (emV))] (cluS 2000000 2900001 (putR rows (idK a b c) (enA (last + 1))) (last + 1) (wrF fuse false) false) (.int .i64 0) := by
 have hw := wrong_a hi
 have hwr := write_m rows last fuse false hf
 obtain ⟨e1, e2, e3⟩ := wr_live h0
 rw [e1, e3] at hwr
 have hg := (get_m hk h).1 ho
 have ha := add_a 1
 have hp := put_m hk h last (wrF fuse false) false hl
 refine MS.enter Tryd.func12 a_cluster_Cluster_Create_ok a_cluster_Cluster_Create_cb (by rfl) (by rfl) fun E hE => ?_
 show AK _ _ _ [.c b_cluster_Cluster_Create] _ _
 rw [b_cluster_Cluster_Create]
 refine kW ?_
 refine kQ [.v (.int .i64 0)] ?_
 refine kW ?_
 refine kCf ?_
 refine kW ?_
 refine kQ [.s [2000000, 2900001] (cluS 2000000 2900001 rows last (wrF fuse false) false) (.int .i64 0)] ?_
 refine kW ?_
 refine kCf ?_
 refine kW ?_
 refine AK.weak (Weak.introN (L := [(0, .np 2000000 0), (4, .ptr 4 0), (5, .ptr 5 0)]) (BL := [(4, idK a b c, false), (5, cM, false), (2000000, cluC 2900001 last (wrF fuse false) false, false), (2900001, [mcA rows], false)]) ⟨kI, kI, kI, trivial⟩ ⟨kJ, kJ, kJ, kJ, trivial⟩ rfl rfl ⟨rfl, rfl, trivial⟩) ?_
 refine AK.rega fw0 [.s [2900001] [(2900001, [mcA rows])] (.tup [.agg zE, .bool false])] (frOf [(0, .np 2000000 0), (4, .ptr 4 0), (5, .ptr 5 0), (10, .bool false)]) ⟨boxOf [(4, idK a b c, false), (5, cM, false), (2000000, cluC 2900001 last (wrF fuse false) false, false), (2900001, [mcA rows], false)], fun _ => 0⟩ ?_ ?_
 ·(repeat' (first | exact trivial | apply And.intro))
  all_goals first | (show _ = _; exact rfl) | (show MOp _ _ _ _ _ _; exact hg) | exact Weak.introN ⟨kI, kI, kI, kI, trivial⟩ ⟨kJ, kJ, kJ, kJ, trivial⟩ rfl rfl ⟨rfl, rfl, trivial⟩
 refine kW ?_
 refine kCf ?_
 refine kW ?_
 refine kQ [.v (.int .i64 0)] ?_
 refine kW ?_
 refine kQ [.s [2000000, 2900001] (cluS 2000000 2900001 (putR rows (idK a b c) (enA (last + 1))) (last + 1) (wrF fuse false) false) (.tup [])] ?_
 refine kW ?_
 exact AK.ret ⟨⟨_, rfl, rfl⟩, ⟨_, rfl, rfl⟩, ⟨_, rfl, rfl⟩, trivial⟩
set_option maxHeartbeats 20000000 in
theorem getOk_m {rows : List MRow} {a b c : ByteArray} (hk : KeysOk Tryd.prog 26 rows) (h : KeyI a b c) (n : Int) (ho : Found rows (idK a b c) (some (enA n))) (last fuse : Int) :
  MS Tryd.prog 10 (cluS 2000000 2900001 rows last fuse false) [.np 2000000 0, .agg (idK a b c)] (cluS 2000000 2900001 rows last fuse false) (.tup [(vA (emV)), .int .i64 n, .int .i64 0]) := by
 have hg := (get_m hk h).2 n ho
 have ha := add_a 0
 have hc : AC Tryd.prog 29 [(vA (emV))] ((vA (emV))) := clone_ok emV (by decide +kernel)
 refine MS.enter Tryd.func10 a_cluster_Cluster_Get_ok a_cluster_Cluster_Get_cb (by rfl) (by rfl) fun E hE => ?_
 show AK _ _ _ [.c b_cluster_Cluster_Get] _ _
 rw [b_cluster_Cluster_Get]
 refine kW ?_
 refine kP [] ?_ ?_
 ·((repeat' apply And.intro) <;> first | exact kD | (intro hgd; refine ⟨?_, kG⟩; (repeat' apply And.intro) <;> first | exact kD | skip) | skip)
  ·exact fun g o => someClu false g o
 refine kCf ?_
 refine kW ?_
 refine kCf ?_
 refine kW ?_
 refine kQ [.v (.int .i64 0)] ?_
 refine kW ?_
 refine AK.weak (Weak.introN (L := [(0, .np 2000000 0), (3, .ptr 3 0), (4, .ptr 4 0)]) (BL := [(3, idK a b c, false), (4, zA, false), (2000000, cluC 2900001 last fuse false, false), (2900001, [mcA rows], false)]) ⟨kI, kI, kI, trivial⟩ ⟨kJ, kJ, kJ, kJ, trivial⟩ rfl rfl ⟨rfl, rfl, trivial⟩) ?_
 refine AK.rega fw0 [.s [2900001] [(2900001, [mcA rows])] (.tup [.agg (enA n), .bool true])] (frOf [(0, .np 2000000 0), (4, .ptr 4 0), (7, .ptr 7 0), (8, .bool true)]) ⟨boxOf [(4, zA, false), (7, enA n, false), (2000000, cluC 2900001 last fuse false, false), (2900001, [mcA rows], false)], fun _ => 0⟩ ?_ ?_
 ·(repeat' (first | exact trivial | apply And.intro))
  all_goals first | (show _ = _; exact rfl) | (show MOp _ _ _ _ _ _; exact hg) | exact Weak.introN ⟨kI, kI, kI, kI, trivial⟩ ⟨kJ, kJ, kJ, kJ, trivial⟩ rfl rfl ⟨rfl, rfl, trivial⟩
 refine kW ?_
 refine kCf ?_
 refine kW ?_
 refine AK.rega fw0 [.v ((vA (emV)))] (frOf [(4, .ptr 4 0), (5, .int .i64 n), (6, .int .i64 0)]) ⟨boxOf [(4, cM, false), (2000000, cluC 2900001 last fuse false, false), (2900001, [mcA rows], false)], fun _ => 0⟩ ?_ ?_
 ·(repeat' (first | exact trivial | apply And.intro))
  all_goals first | (show _ = _; exact rfl) | (show AC _ _ _ _; exact hc) | exact Weak.introN ⟨kI, kI, kI, trivial⟩ ⟨kJ, kJ, kJ, trivial⟩ rfl rfl ⟨rfl, rfl, trivial⟩
 refine kW ?_
 exact AK.ret ⟨⟨_, rfl, rfl⟩, ⟨_, rfl, rfl⟩, ⟨_, rfl, rfl⟩, trivial⟩
set_option maxHeartbeats 20000000 in
theorem patch_m {rows : List MRow} {a b c : ByteArray} (hk : KeysOk Tryd.prog 26 rows) (h : KeyI a b c) (hi : idOk a b c) (n v : Int) (ho : Found rows (idK a b c) (some (enA n))) (last fuse : Int) (hl : -1000 ≤ last ∧ last ≤ 1000) (hf : -1000 ≤ fuse ∧ fuse ≤ 1000) (h0 : fuse ≠ 0) :
  MS Tryd.prog 14 (cluS 2000000 2900001 rows last fuse false) [.np 2000000 0, .agg (idK a b c), .int .i64 v, (vA (emV))] (if n = v then cluS 2000000 2900001 (putR rows (idK a b c) (enA (last + 1))) (last + 1) (wrF fuse false) false else cluS 2000000 2900001 rows last (wrF fuse false) false) (.int .i64 (if n = v then 0 else 32)) := by
 have hw := wrong_a hi
 have hwr := write_m rows last fuse false hf
 obtain ⟨e1, e2, e3⟩ := wr_live h0
 rw [e1, e3] at hwr
 have hg := (get_m hk h).2 n ho
 have ha := add_a 2
 have hp := put_m hk h last (wrF fuse false) false hl
 refine MS.enter Tryd.func14 a_cluster_Cluster_Patch_ok a_cluster_Cluster_Patch_cb (by rfl) (by rfl) fun E hE => ?_
 show AK _ _ _ [.c b_cluster_Cluster_Patch] _ _
 rw [b_cluster_Cluster_Patch]
 refine kW ?_
 refine kQ [.v (.int .i64 0)] ?_
 refine kW ?_
 refine kCf ?_
 refine kW ?_
 refine kQ [.s [2000000, 2900001] (cluS 2000000 2900001 rows last (wrF fuse false) false) (.int .i64 0)] ?_
 refine kW ?_
 refine kCf ?_
 refine kW ?_
 refine AK.weak (Weak.introN (L := [(0, .np 2000000 0), (2, .int .i64 v), (5, .ptr 5 0), (7, .ptr 7 0)]) (BL := [(5, idK a b c, false), (7, cM, false), (2000000, cluC 2900001 last (wrF fuse false) false, false), (2900001, [mcA rows], false)]) ⟨kI, kI, kI, kI, trivial⟩ ⟨kJ, kJ, kJ, kJ, trivial⟩ rfl rfl ⟨rfl, rfl, trivial⟩) ?_
 refine AK.rega fw0 [.s [2900001] [(2900001, [mcA rows])] (.tup [.agg (enA n), .bool true])] (frOf [(0, .np 2000000 0), (2, .int .i64 v), (5, .ptr 5 0), (7, .ptr 7 0), (11, .ptr 11 0), (12, .bool true)]) ⟨boxOf [(5, idK a b c, false), (7, cM, false), (11, enA n, false), (2000000, cluC 2900001 last (wrF fuse false) false, false), (2900001, [mcA rows], false)], fun _ => 0⟩ ?_ ?_
 ·(repeat' (first | exact trivial | apply And.intro))
  all_goals first | (show _ = _; exact rfl) | (show MOp _ _ _ _ _ _; exact hg) | exact Weak.introN ⟨kI, kI, kI, kI, kI, kI, trivial⟩ ⟨kJ, kJ, kJ, kJ, kJ, trivial⟩ rfl rfl ⟨rfl, rfl, trivial⟩
 refine kW ?_
 refine kCf ?_
 refine kW ?_
 refine kC (fun hb => ?_) fun hb => ?_
 ·have hn : ¬ n = v := by simpa using hb
  rw [if_neg hn, if_neg hn]
  refine kW ?_
  exact AK.ret ⟨⟨_, rfl, rfl⟩, ⟨_, rfl, rfl⟩, ⟨_, rfl, rfl⟩, trivial⟩
 ·have hn : n = v := by simpa using hb
  rw [if_pos hn, if_pos hn]
  refine kW ?_
  refine kQ [.v (.int .i64 0)] ?_
  refine kW ?_
  refine kQ [.s [2000000, 2900001] (cluS 2000000 2900001 (putR rows (idK a b c) (enA (last + 1))) (last + 1) (wrF fuse false) false) (.tup [])] ?_
  refine kW ?_
  exact AK.ret ⟨⟨_, rfl, rfl⟩, ⟨_, rfl, rfl⟩, ⟨_, rfl, rfl⟩, trivial⟩
theorem new_m : MS Tryd.prog 27 [] [npC] [(6, cluC 1900101 0 (-1) false), (1900101, [mcA []])] (.np 6 0) := by
 have hn : MOp Tryd.prog (.new 61) [] [] [(1900101, [mcA []])] (.np 1900101 0) := mop_new rfl
 refine MS.enter Tryd.func27 a_cluster_New_ok a_cluster_New_cb (by rfl) (by rfl) fun E hE => ?_
 show AK _ _ _ [.c b_cluster_New] _ _
 rw [b_cluster_New]
 refine kW ?_
 refine kQ [.s [] [(1900101, [mcA []])] (.np 1900101 0)] ?_
 refine AK.weak (Weak.introN (L := [(2, .ptr 6 0)]) (BL := [(6, cluC 1900101 0 (-1) false, false), (1900101, [mcA []], false)]) ⟨kI, trivial⟩ ⟨⟨_, rfl, .refl _, .refl _, .any .nil 1 [], .refl _, .refl _, .refl _, trivial⟩, kJ, trivial⟩ rfl rfl ⟨rfl, trivial⟩) ?_
 exact AK.ret ⟨⟨_, rfl, rfl⟩, ⟨_, rfl, rfl⟩, ⟨_, rfl, rfl⟩, trivial⟩
def rhoC (i : Nat) : Nat := if i = 2000000 then 1000100 else if i = 1000100 then 2000000 else if i = 2900001 then 1900101 else if i = 1900101 then 2900001 else i
theorem rhoC_inj (i j : Nat) (h : rhoC i = rhoC j) : i = j := by
 unfold rhoC at h
 repeat' split at h
 all_goals omega
theorem rhoC_mp (i : Nat) : isMp (rhoC i) = isMp i := by
 unfold rhoC
 repeat' split
 all_goals first | (subst_vars; rfl) | rfl
def rhoN (i : Nat) : Nat := if i = 6 then 1000100 else if i = 1000100 then 6 else i
theorem rhoN_inj (i j : Nat) (h : rhoN i = rhoN j) : i = j := by
 unfold rhoN at h
 repeat' split at h
 all_goals omega
theorem rhoN_mp (i : Nat) : isMp (rhoN i) = isMp i := by
 unfold rhoN
 repeat' split
 all_goals first | (subst_vars; rfl) | rfl
theorem new_a : MS Tryd.prog 27 [] [npC] (cluS 1000100 1900101 [] 0 (-1) false) (.np 1000100 0) := new_m.ren rhoN rhoN_inj rhoN_mp
theorem putR_nil (κ vc : List AV) : putR [] κ vc = [(κ, vc)] := by
 unfold putR
 rw [if_neg (by simp)]
 rfl
theorem putR_one (κ vc wc : List AV) : putR [(κ, vc)] κ wc = [(κ, wc)] := by
 unfold putR
 rw [if_pos ⟨_, List.mem_singleton.2 rfl, rfl⟩]
 simp
theorem keysOk_nil : KeysOk Tryd.prog 26 [] := fun r h => by cases h
theorem keysOk_one {a b c : ByteArray} (h : KeyI a b c) (vc : List AV) : KeysOk Tryd.prog 26 [(idK a b c, vc)] := fun r hr => by
 rw [List.mem_singleton.1 hr]
 obtain ⟨l, hl⟩ := h
 exact ⟨_, l, keyV_id a b c, hl⟩
theorem keyA : KeyI ⟨#[65]⟩ ⟨#[98]⟩ ⟨#[99]⟩ := by
 have h : (keyOf Tryd.prog 26 (.agg #[.string ⟨#[65]⟩, .string ⟨#[98]⟩, .string ⟨#[99]⟩])).isSome = true := by kernel_rfl
 exact Option.isSome_iff_exists.1 h
theorem okA : idOk ⟨#[65]⟩ ⟨#[98]⟩ ⟨#[99]⟩ := by
 refine ⟨by decide +kernel, by decide, by decide, by decide⟩
abbrev kA0 : List AV := idK ⟨#[65]⟩ ⟨#[98]⟩ ⟨#[99]⟩
theorem awakeCl_a : AC Tryd.prog 11 [] (.bool true) := by
 have hM : AC Tryd.prog 13 [.lst .any 7 []] ((vA (emV))) := treeMap_a [] (by decide +kernel)
 have hN := new_a
 have hC : MS Tryd.prog 12 (cluS 1000100 1900101 [] 0 (-1) false) [.np 1000100 0, .agg kA0, (vA (emV))] (cluS 1000100 1900101 [(kA0, enA 1)] 1 (-1) false) (.int .i64 0) := by
  have h := create_m keysOk_nil keyA okA (rows := []) (fun r hr => by cases hr) 0 (-1) (by omega) (by omega) (by omega)
  rw [putR_nil] at h
  exact h.ren rhoC rhoC_inj rhoC_mp
 have hG : MS Tryd.prog 10 (cluS 1000100 1900101 [(kA0, enA 1)] 1 (-1) false) [.np 1000100 0, .agg kA0] (cluS 1000100 1900101 [(kA0, enA 1)] 1 (-1) false) (.tup [(vA (emV)), .int .i64 1, .int .i64 0]) := by
  exact (getOk_m (keysOk_one keyA _) keyA 1 (List.mem_singleton.2 rfl) 1 (-1)).ren rhoC rhoC_inj rhoC_mp
 have hP : MS Tryd.prog 14 (cluS 1000100 1900101 [(kA0, enA 1)] 1 (-1) false) [.np 1000100 0, .agg kA0, .int .i64 1, (vA (emV))] (cluS 1000100 1900101 [(kA0, enA 2)] 2 (-1) false) (.int .i64 0) := by
  have h := patch_m (keysOk_one keyA (enA 1)) keyA okA 1 1 (List.mem_singleton.2 rfl) 1 (-1) (by omega) (by omega) (by omega)
  rw [putR_one, if_pos rfl, if_pos rfl] at h
  exact h.ren rhoC rhoC_inj rhoC_mp
 have hQ : MS Tryd.prog 14 (cluS 1000100 1900101 [(kA0, enA 2)] 2 (-1) false) [.np 1000100 0, .agg kA0, .int .i64 1, (vA (emV))] (cluS 1000100 1900101 [(kA0, enA 2)] 2 (-1) false) (.int .i64 32) := by
  have h := patch_m (keysOk_one keyA (enA 2)) keyA okA 2 1 (List.mem_singleton.2 rfl) 2 (-1) (by omega) (by omega) (by omega)
  rw [if_neg (by omega), if_neg (by omega)] at h
  exact h.ren rhoC rhoC_inj rhoC_mp
 refine kE Tryd.func11 a_law16_awake_ok a_law16_awake_cb fun E hE => ?_
 refine kW ?_
 refine kQ [.s [] (cluS 1000100 1900101 [] 0 (-1) false) (.np 1000100 0)] ?_
 refine kW ?_
 refine kQ [.v ((vA (emV))), .s [1000100, 1900101] (cluS 1000100 1900101 [(kA0, enA 1)] 1 (-1) false) (.int .i64 0)] ?_
 refine kW ?_
 refine kQ [.s [1000100, 1900101] (cluS 1000100 1900101 [(kA0, enA 1)] 1 (-1) false) (.tup [(vA (emV)), .int .i64 1, .int .i64 0])] ?_
 refine AK.weak (Weak.introN (L := [(1, .np 1000100 0), (2, .ptr 2 0), (3, .int .i64 0), (5, .int .i64 1), (6, .int .i64 0)]) (BL := [(2, kA0, false), (1000100, cluC 1900101 1 (-1) false, false), (1900101, [mcA [(kA0, enA 1)]], false)]) ⟨kI, kI, kI, kI, kI, trivial⟩ ⟨kJ, kJ, kJ, trivial⟩ rfl rfl ⟨rfl, rfl, trivial⟩) ?_
 refine kW ?_
 refine kQ [.v ((vA (emV))), .s [1000100, 1900101] (cluS 1000100 1900101 [(kA0, enA 2)] 2 (-1) false) (.int .i64 0), .v ((vA (emV))), .s [1000100, 1900101] (cluS 1000100 1900101 [(kA0, enA 2)] 2 (-1) false) (.int .i64 32)] ?_
 refine kW ?_
 refine AK.ret ⟨_, rfl, ?_⟩
 rfl
end Go.Proofs.YtgcodocajgdmcaaDoor
namespace Go.Proofs.YtgcodocajgdmcaaDoor
set_option maxRecDepth 100000
def b_law16_ClusterNil : ACode :=
 .seq (gQ [⟨gO, .mov 2 (.k (.bool false))⟩]) (.seq (gQ [⟨gO, .mov 3 (.k (.raw (Value.pointer none)))⟩]) (.seq (gQ [gM 8 3, gM 9 0, ⟨gO, .bsl 10 1 1 [.int .i64 0] [(0, 1, .s 9)]⟩, gC 11 7 [.s 8, .s 10]]) (.seq (gQ [gM 12 3, gM 13 0, gC 14 8 [.s 12, .s 13]]) (.seq (gQ [gM 15 3, gC 16 9 [.s 15]]) (.seq (gQ [⟨gO, .build 17 [.str ⟨#[]⟩, .str ⟨#[]⟩, .str ⟨#[]⟩] [(0, 1, gS ⟨#[65]⟩), (1, 1, gS ⟨#[98]⟩), (2, 1, gS ⟨#[99]⟩)]⟩, ⟨gO, .alloc 4 [.str ⟨#[]⟩, .str ⟨#[]⟩, .str ⟨#[]⟩]⟩, gT 3 4 17]) (.seq (gQ [gM 19 3, gA 20 3 4, gC 21 10 [.s 19, .s 20], gM 18 21, gX 22 0 18, gX 23 1 18, gX 24 2 18, ⟨gO, .alloc 5 gZ⟩, gT 6 5 22, gM 6 23, gM 7 24]) (.seq (gQ [gC 25 11 [], gM 26 25, gN 26 true 27 7, ⟨some (26, true), .bin 28 .eql false (.s 27) (gI 2)⟩, ⟨gO, .pick 29 (.s 26) (.s 28) (.k (.bool false))⟩, gM 30 29, gN 30 true 31 3, ⟨some (30, true), .ld 32 3 true (.s 4)⟩, ⟨some (30, true), .call (some 33) (.k (.fn 13 [])) [.k (.lst .nil 7 [])]⟩, ⟨some (30, true), .call (some 34) (.k (.fn 12 [])) [.s 31, .s 32, .s 33]⟩, ⟨some (30, true), .bin 35 .eql false (.s 34) (gI 2)⟩, ⟨gO, .pick 36 (.s 30) (.s 35) (.k (.bool false))⟩, gM 37 36, gN 37 true 38 3, ⟨some (37, true), .ld 39 3 true (.s 4)⟩, gN 37 true 40 0, ⟨some (37, true), .call (some 41) (.k (.fn 13 [])) [.k (.lst .nil 7 [])]⟩, ⟨some (37, true), .call (some 42) (.k (.fn 14 [])) [.s 38, .s 39, .s 40, .s 41]⟩, ⟨some (37, true), .bin 43 .eql false (.s 42) (gI 2)⟩, ⟨gO, .pick 44 (.s 37) (.s 43) (.k (.bool false))⟩, gM 45 44, gN 45 true 46 3, ⟨some (45, true), .ld 47 3 true (.s 4)⟩, ⟨some (45, true), .call (some 48) (.k (.fn 15 [])) [.s 46, .s 47]⟩, ⟨some (45, true), .bin 49 .eql false (.s 48) (gI 2)⟩, ⟨gO, .pick 50 (.s 45) (.s 49) (.k (.bool false))⟩, gM 51 50, gN 51 true 52 3, ⟨some (51, true), .ld 53 3 true (.s 4)⟩, ⟨some (51, true), .call (some 54) (.k (.fn 13 [])) [.k (.lst .nil 7 [])]⟩, ⟨some (51, true), .call (some 55) (.k (.fn 16 [])) [.s 52, .s 53, .s 54]⟩, ⟨some (51, true), .bin 56 .eql false (.s 55) (gI 2)⟩, ⟨gO, .pick 57 (.s 51) (.s 56) (.k (.bool false))⟩, gM 58 57, gN 58 true 59 3, ⟨some (58, true), .call (some 60) (.k (.fn 17 [])) [.s 59]⟩, ⟨some (58, true), .un 61 .not (.s 60)⟩, ⟨gO, .pick 62 (.s 58) (.s 61) (.k (.bool false))⟩, gM 63 62, gN 63 true 64 3, ⟨some (63, true), .call (some 65) (.k (.fn 18 [])) [.s 64]⟩, ⟨some (63, true), .len 66 false (.s 65)⟩, ⟨some (63, true), .bin 67 .eql false (.s 66) (gI 0)⟩, ⟨gO, .pick 68 (.s 63) (.s 67) (.k (.bool false))⟩, gM 69 68, gN 69 true 70 3, ⟨some (69, true), .call (some 71) (.k (.fn 19 [])) [.s 70]⟩, ⟨some (69, true), .eqs 72 false 22 (.s 71) (.k (.raw (Value.pointer none)))⟩, ⟨gO, .pick 73 (.s 69) (.s 72) (.k (.bool false))⟩, gM 2 73]) .ret)))))))
def a_law16_ClusterNil : AFn := ⟨1, 74, b_law16_ClusterNil, [.tmp 2]⟩
theorem a_law16_ClusterNil_ok : fnAF Tryd.prog [] Tryd.f3 = some a_law16_ClusterNil := by kernel_rfl
theorem a_law16_ClusterNil_cb : callable Tryd.prog 3 = true := by kernel_rfl
end Go.Proofs.YtgcodocajgdmcaaDoor
namespace Go.Proofs.YtgcodocajgdmcaaDoor
open Go.RowKit
theorem fail0_a (l : List (List AV)) : AC Tryd.prog 7 [npC, .lst .any 1 l] (.tup []) := by
 refine kE Tryd.func7 a_cluster_Cluster_Fail_ok a_cluster_Cluster_Fail_cb fun E hE => ?_
 refine kW ?_
 refine kP [] ?_ ?_
 ·((repeat' apply And.intro) <;> first | exact kD | (intro hgd; refine ⟨?_, kG⟩; (repeat' apply And.intro) <;> first | exact kD | skip) | skip)
  ·exact nilClu true
 refine kCf ?_
 refine kW ?_
 show RQ _ _ .normal _ _
 exact ⟨_, rfl, rfl⟩
theorem fuse0_a (n : Int) : AC Tryd.prog 8 [npC, .int .i64 n] (.tup []) := by
 refine kE Tryd.func8 a_cluster_Cluster_Fuse_ok a_cluster_Cluster_Fuse_cb fun E hE => ?_
 refine kW ?_
 refine kP [] ?_ ?_
 ·((repeat' apply And.intro) <;> first | exact kD | (intro hgd; refine ⟨?_, kG⟩; (repeat' apply And.intro) <;> first | exact kD | skip) | skip)
  ·exact nilClu true
 refine kCf ?_
 refine kW ?_
 show RQ _ _ .normal _ _
 exact ⟨_, rfl, rfl⟩
theorem restart0_a : AC Tryd.prog 9 [npC] (.tup []) := by
 refine kE Tryd.func9 a_cluster_Cluster_Restart_ok a_cluster_Cluster_Restart_cb fun E hE => ?_
 refine kW ?_
 refine kP [] ?_ ?_
 ·((repeat' apply And.intro) <;> first | exact kD | (intro hgd; refine ⟨?_, kG⟩; (repeat' apply And.intro) <;> first | exact kD | skip) | skip)
  ·exact nilClu true
 refine kCf ?_
 refine kW ?_
 show RQ _ _ .normal _ _
 exact ⟨_, rfl, rfl⟩
theorem get0_a (κ : List AV) (hκ : κ.map AV.unown = κ) : AC Tryd.prog 10 [npC, .agg κ] (.tup [.agg [.int .i64 0, .bool false, .int .i64 0, .str ⟨#[]⟩, .lst .any 6 [], .lst .any 7 []], .int .i64 0, .int .i64 2]) := by
 refine kE Tryd.func10 a_cluster_Cluster_Get_ok a_cluster_Cluster_Get_cb fun E hE => ?_
 refine kW ?_
 refine kP [] ?_ ?_
 ·((repeat' apply And.intro) <;> first | exact kD | (intro hgd; refine ⟨?_, kG⟩; (repeat' apply And.intro) <;> first | exact kD | skip) | skip)
  ·exact nilClu false
 refine kCt ?_
 refine kW ?_
 refine AK.ret ⟨_, rfl, ?_⟩
 rfl
theorem write0_a : AC Tryd.prog 31 [npC] (.int .i64 2) := by
 refine kE Tryd.func31 a_cluster_Cluster_write_ok a_cluster_Cluster_write_cb fun E hE => ?_
 refine kW ?_
 refine kP [] ?_ ?_
 ·((repeat' apply And.intro) <;> first | exact kD | (intro hgd; refine ⟨?_, kG⟩; (repeat' apply And.intro) <;> first | exact kD | skip) | skip)
  ·exact nilClu false
 refine kCt ?_
 refine kW ?_
 refine AK.ret ⟨_, rfl, ?_⟩
 rfl
theorem create0_a {a b c : ByteArray} (hi : idOk a b c) : AC Tryd.prog 12 [npC, .agg (idK a b c), (vA (emV))] (.int .i64 2) := by
 have hw := wrong_a hi
 have h0 := write0_a
 refine kE Tryd.func12 a_cluster_Cluster_Create_ok a_cluster_Cluster_Create_cb fun E hE => ?_
 refine kW ?_
 refine kQ [.v (.int .i64 0)] ?_
 refine kW ?_
 refine kCf ?_
 refine kW ?_
 refine kQ [.v (.int .i64 2)] ?_
 refine kW ?_
 refine kCt ?_
 refine kW ?_
 refine AK.ret ⟨_, rfl, ?_⟩
 rfl
theorem patch0_a {a b c : ByteArray} (hi : idOk a b c) (n : Int) : AC Tryd.prog 14 [npC, .agg (idK a b c), .int .i64 n, (vA (emV))] (.int .i64 2) := by
 have hw := wrong_a hi
 have h0 := write0_a
 refine kE Tryd.func14 a_cluster_Cluster_Patch_ok a_cluster_Cluster_Patch_cb fun E hE => ?_
 refine kW ?_
 refine kQ [.v (.int .i64 0)] ?_
 refine kW ?_
 refine kCf ?_
 refine kW ?_
 refine kQ [.v (.int .i64 2)] ?_
 refine kW ?_
 refine kCt ?_
 refine kW ?_
 refine AK.ret ⟨_, rfl, ?_⟩
 rfl
theorem delete0_a (a b c : ByteArray) : AC Tryd.prog 15 [npC, .agg (idK a b c)] (.int .i64 2) := by
 have h0 := write0_a
 refine kE Tryd.func15 a_cluster_Cluster_Delete_ok a_cluster_Cluster_Delete_cb fun E hE => ?_
 refine kW ?_
 refine kQ [.v (.int .i64 2)] ?_
 refine kW ?_
 refine kCt ?_
 refine kW ?_
 refine AK.ret ⟨_, rfl, ?_⟩
 rfl
theorem edit0_a (a b c : ByteArray) : AC Tryd.prog 16 [npC, .agg (idK a b c), (vA (emV))] (.int .i64 2) := by
 refine kE Tryd.func16 a_cluster_Cluster_Edit_ok a_cluster_Cluster_Edit_cb fun E hE => ?_
 refine kW ?_
 refine kP [] ?_ ?_
 ·((repeat' apply And.intro) <;> first | exact kD | (intro hgd; refine ⟨?_, kG⟩; (repeat' apply And.intro) <;> first | exact kD | skip) | skip)
  ·exact nilClu false
 refine kCt ?_
 refine kW ?_
 refine AK.ret ⟨_, rfl, ?_⟩
 rfl
theorem relNp {σ : Sg} {v : Value} (h : RelP σ v npC) : v = .pointer none := by
 cases (show Rel1 σ v npC from h)
 rfl
theorem down0_any (w : World) : Calls Tryd.prog 17 #[.pointer none] w fun e w' => e = .returned (.bool false) ∧ Below w.heap.size w w' := by
 go_enter Tryd.func17, Tryd.ntmps17
 go_wp2_with fail
 go_ret
 exact ⟨rfl, Below.refl _ _⟩
theorem objects0_any (w : World) : Calls Tryd.prog 18 #[.pointer none] w fun e w' => e = .returned (.slice none 0 0) ∧ Below w.heap.size w w' := by
 go_enter Tryd.func18, Tryd.ntmps18
 go_wp2_with fail
 go_ret
 exact ⟨rfl, Below.refl _ _⟩
theorem twin0_any (w : World) : Calls Tryd.prog 19 #[.pointer none] w fun e w' => e = .returned (.pointer none) ∧ Below w.heap.size w w' := by
 go_enter Tryd.func19, Tryd.ntmps19
 go_wp2_with fail
 go_ret
 exact ⟨rfl, Below.refl _ _⟩
theorem one_arg {σ : Sg} {vs : List Value} (h : RelPs σ vs [npC]) : vs = [.pointer none] := by
 obtain ⟨v, rfl⟩ := List.length_eq_one_iff.1 h.1
 rw [relNp (h.2 0 v npC rfl rfl)]
theorem down0_a : AC Tryd.prog 17 [npC] (.bool false) := by
 refine ⟨by kernel_rfl, fun σ w vs hh hr hg => ?_⟩
 rw [one_arg hr]
 refine (down0_any w).mono ?_
 rintro e w' ⟨rfl, hB⟩
 exact ⟨σ, _, rfl, Ext.refl _ _, hh.on hB, hB, .bool _⟩
theorem objects0_a : AC Tryd.prog 18 [npC] (.lst .any 9 []) := by
 refine ⟨by kernel_rfl, fun σ w vs hh hr hg => ?_⟩
 rw [one_arg hr]
 refine (objects0_any w).mono ?_
 rintro e w' ⟨rfl, hB⟩
 exact ⟨σ, _, rfl, Ext.refl _ _, hh.on hB, hB, rel_none _ _⟩
theorem twin0_a : AC Tryd.prog 19 [npC] npC := by
 refine ⟨by kernel_rfl, fun σ w vs hh hr hg => ?_⟩
 rw [one_arg hr]
 refine (twin0_any w).mono ?_
 rintro e w' ⟨rfl, hB⟩
 exact ⟨σ, _, rfl, Ext.refl _ _, hh.on hB, hB, .raw _ rfl⟩
theorem clusterNil_a (n : Int) : AC Tryd.prog 3 [.int .i64 n] (.bool true) := by
 have hM : AC Tryd.prog 13 [.lst .any 7 []] ((vA (emV))) := treeMap_a [] (by decide +kernel)
 have h1 := fail0_a [[.int .i64 n]]
 have h2 := fuse0_a n
 have h3 := restart0_a
 have h4 := get0_a kA0 rfl
 have h5 := awakeCl_a
 have h6 := create0_a okA
 have h7 := patch0_a okA n
 have h8 := delete0_a ⟨#[65]⟩ ⟨#[98]⟩ ⟨#[99]⟩
 have h9 := edit0_a ⟨#[65]⟩ ⟨#[98]⟩ ⟨#[99]⟩
 have h10 := down0_a
 have h11 := objects0_a
 have h12 := twin0_a
 refine kE Tryd.func3 a_law16_ClusterNil_ok a_law16_ClusterNil_cb fun E hE => ?_
 refine kW ?_
 refine kQ [.v (.tup [])] ?_
 refine kW ?_
 refine kQ [.v (.tup [])] ?_
 refine kW ?_
 refine kQ [.v (.tup [])] ?_
 refine kW ?_
 refine kQ [.v (.tup [.agg [.int .i64 0, .bool false, .int .i64 0, .str ⟨#[]⟩, .lst .any 6 [], .lst .any 7 []], .int .i64 0, .int .i64 2])] ?_
 refine AK.weak (Weak.intro (L := [(3, npC), (4, .ptr 4 0), (7, .int .i64 2), (0, .int .i64 n)]) (BL := [(4, kA0, false)]) ⟨kI, kI, kI, kI, trivial⟩ ⟨kJ, trivial⟩ rfl rfl) ?_
 refine kW ?_
 refine kP [.v (.bool true), .v ((vA (emV))), .v (.int .i64 2), .v ((vA (emV))), .v (.int .i64 2), .v (.int .i64 2), .v ((vA (emV))), .v (.int .i64 2), .v (.bool false), .v (.lst .any 9 []), .v npC] ?_ ?_
 ·((repeat' apply And.intro) <;> first | exact kD | (intro hgd; refine ⟨?_, kG⟩; (repeat' apply And.intro) <;> first | exact kD | skip) | skip)
  ·exact nilClu false
 refine kW ?_
 refine AK.ret ⟨_, rfl, ?_⟩
 rfl
end Go.Proofs.YtgcodocajgdmcaaDoor
