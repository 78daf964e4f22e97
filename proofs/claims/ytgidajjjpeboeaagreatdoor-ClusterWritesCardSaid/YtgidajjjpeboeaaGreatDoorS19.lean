/-
  The texts that the claim wants, one behind the other: part 19.
-/
import Derived.Test.YtgidajjjpeboeaaGreatDoorS18
import Derived.Lib.Strings
import Derived.BigQuiet
set_option linter.unusedSimpArgs false
set_option linter.unusedVariables false
namespace Go.Proofs.YtgidajjjpeboeaaGreatDoor
open Go.RowKit
theorem max_cast (a b : Nat) : (match decide ((b : Int) > (a : Int)) with | true => (b : Int) | false => (a : Int)) = ((max a b : Nat) : Int) := by
 by_cases h : a < b
 ·rw [decide_eq_true (by omega)]; show (b : Int) = _; omega
 ·rw [decide_eq_false (by omega)]; show (a : Int) = _; omega
theorem treeSize_a (n : Nat) : ∀ v : V, v.size ≤ n → v.size ≤ 2000000000000 → AC Tryz.prog 122 [(vA (v))] (.int .i64 v.size) := by
 induction n with
 | zero => intro v h; have := v.size_pos; omega
 | succ n ih =>
  intro v hn hsz
  have hve := v.size_eq
  have hll := len_le_sizeL v.l
  have hlm := len_le_sizeM v.m
  refine kE Tryz.func122 a_tree_Size_ok a_tree_Size_cb fun E hE => ?_
  refine kW ?_
  refine AK.loopI (fun k : Nat => (frOf [(1, .ptr 1 0), (3, .int .i64 ((1 + sizeL (v.l.take k) : Nat) : Int)), (9, .lst .any 6 (rowsV v.l)), (10, .int .i64 (rowsV v.l).length), (11, .int .i64 k)], ⟨boxOf [(1, (vC (v)), false)], fun _ => 0⟩)) (fun k => k ≤ v.l.length) (fun k => v.l.length - k) 0 (by omega) (Weak.intro ⟨kI, kI, kI, kI, kI, trivial⟩ ⟨kJ, trivial⟩ rfl rfl) fun k hk => ?_
  refine kW ?_
  refine kC (fun hb => ?_) fun hb => ?_
  ·have hlt : k < v.l.length := by simpa [rowsV_len] using hb
   obtain ⟨x, hg⟩ : ∃ x, v.l[k]? = some x := ⟨_, List.getElem?_eq_getElem hlt⟩
   have hx := sizeL_take hg
   have hx2 := sizeL_take_le v.l (k + 1)
   refine kW ?_
   refine kP [.c (vC (x))] ?_ ?_
   ·((repeat' apply And.intro) <;> first | exact kD | (intro hgd; refine ⟨?_, kG⟩; (repeat' apply And.intro) <;> first | exact kD | skip) | skip)
    ·exact rowsV_at hg
   refine kW ?_
   refine kP [.v (.int .i64 x.size)] ?_ ?_
   ·((repeat' apply And.intro) <;> first | exact kD | (intro hgd; refine ⟨?_, kG⟩; (repeat' apply And.intro) <;> first | exact kD | skip) | skip)
    ·exact ih x (by omega) (by omega)
   refine kW ?_
   exact AK.lp ⟨k + 1, by omega, Weak.intro ⟨kI, kU, kI, kI, kU, trivial⟩ ⟨kJ, trivial⟩ rfl rfl, by omega⟩
  ·have hlt : k = v.l.length := by have : v.l.length ≤ k := by simpa [rowsV_len] using hb
                                   omega
   subst hlt
   rw [List.take_length]
   refine AK.exit rfl ?_
   refine kW ?_
   refine AK.loopI (fun k : Nat => (frOf [(1, .ptr 1 0), (3, .int .i64 ((1 + sizeL v.l + sizeM (v.m.take k) : Nat) : Int)), (21, .lst .any 7 (rowsM v.m)), (22, .int .i64 (rowsM v.m).length), (23, .int .i64 k)], ⟨boxOf [(1, (vC (v)), false)], fun _ => 0⟩)) (fun k => k ≤ v.m.length) (fun k => v.m.length - k) 0 (by omega) (Weak.intro ⟨kI, kI, kI, kI, kI, trivial⟩ ⟨kJ, trivial⟩ rfl rfl) fun k hk => ?_
   refine kW ?_
   refine kC (fun hb => ?_) fun hb => ?_
   ·have hlt : k < v.m.length := by simpa [rowsM_len] using hb
    obtain ⟨⟨y, x⟩, hg⟩ : ∃ x, v.m[k]? = some x := ⟨_, List.getElem?_eq_getElem hlt⟩
    have hx := sizeM_take hg
    have hx2 := sizeM_take_le v.m (k + 1)
    refine kW ?_
    refine kP [.c (.str y :: (vC (x)))] ?_ ?_
    ·((repeat' apply And.intro) <;> first | exact kD | (intro hgd; refine ⟨?_, kG⟩; (repeat' apply And.intro) <;> first | exact kD | skip) | skip)
     ·exact rowsM_at hg
    refine kW ?_
    refine kP [.v (.int .i64 x.size)] ?_ ?_
    ·((repeat' apply And.intro) <;> first | exact kD | (intro hgd; refine ⟨?_, kG⟩; (repeat' apply And.intro) <;> first | exact kD | skip) | skip)
     ·exact ih x (by omega) (by omega)
    refine kW ?_
    exact AK.lp ⟨k + 1, by omega, Weak.intro ⟨kI, kU, kI, kI, kU, trivial⟩ ⟨kJ, trivial⟩ rfl rfl, by omega⟩
   ·have hlt : k = v.m.length := by have : v.m.length ≤ k := by simpa [rowsM_len] using hb
                                    omega
    subst hlt
    rw [List.take_length]
    refine AK.exit rfl ?_
    refine kW ?_
    refine AK.ret ⟨_, rfl, ?_⟩
    rw [hve]
    rfl
theorem treeDepth_a (n : Nat) : ∀ v : V, v.size ≤ n → v.size ≤ 2000000000000 → AC Tryz.prog 121 [(vA (v))] (.int .i64 v.depth) := by
 induction n with
 | zero => intro v h; have := v.size_pos; omega
 | succ n ih =>
  intro v hn hsz
  have hve := v.size_eq
  have hde := v.depth_eq
  have hds := v.depth_le_size'
  have hll := len_le_sizeL v.l
  have hlm := len_le_sizeM v.m
  refine kE Tryz.func121 a_tree_Depth_ok a_tree_Depth_cb fun E hE => ?_
  refine kW ?_
  refine AK.loopI (fun k : Nat => (frOf [(1, .ptr 1 0), (3, .int .i64 (depthL (v.l.take k) : Nat)), (9, .lst .any 6 (rowsV v.l)), (10, .int .i64 (rowsV v.l).length), (11, .int .i64 k)], ⟨boxOf [(1, (vC (v)), false)], fun _ => 0⟩)) (fun k => k ≤ v.l.length) (fun k => v.l.length - k) 0 (by omega) (Weak.intro ⟨kI, kI, kI, kI, kI, trivial⟩ ⟨kJ, trivial⟩ rfl rfl) fun k hk => ?_
  refine kW ?_
  refine kC (fun hb => ?_) fun hb => ?_
  ·have hlt : k < v.l.length := by simpa [rowsV_len] using hb
   obtain ⟨x, hg⟩ : ∃ x, v.l[k]? = some x := ⟨_, List.getElem?_eq_getElem hlt⟩
   have hx := sizeL_take hg
   have hx2 := sizeL_take_le v.l (k + 1)
   have hd := depthL_take hg
   refine kW ?_
   refine kP [.c (vC (x))] ?_ ?_
   ·((repeat' apply And.intro) <;> first | exact kD | (intro hgd; refine ⟨?_, kG⟩; (repeat' apply And.intro) <;> first | exact kD | skip) | skip)
    ·exact rowsV_at hg
   refine kW ?_
   refine kP [.v (.int .i64 x.depth)] ?_ ?_
   ·((repeat' apply And.intro) <;> first | exact kD | (intro hgd; refine ⟨?_, kG⟩; (repeat' apply And.intro) <;> first | exact kD | skip) | skip)
    ·exact ih x (by omega) (by omega)
   refine kW ?_
   refine AK.lp ⟨k + 1, by omega, Weak.intro ⟨kI, ⟨_, rfl, .of_eq (congrArg (AV.int _) ?_)⟩, kI, kI, kU, trivial⟩ ⟨kJ, trivial⟩ rfl rfl, by omega⟩
   exact (max_cast _ _).trans (by rw [hd])
  ·have hlt : k = v.l.length := by have : v.l.length ≤ k := by simpa [rowsV_len] using hb
                                   omega
   subst hlt
   rw [List.take_length]
   refine AK.exit rfl ?_
   refine kW ?_
   refine AK.loopI (fun k : Nat => (frOf [(1, .ptr 1 0), (3, .int .i64 (max (depthL v.l) (depthM (v.m.take k)) : Nat)), (21, .lst .any 7 (rowsM v.m)), (22, .int .i64 (rowsM v.m).length), (23, .int .i64 k)], ⟨boxOf [(1, (vC (v)), false)], fun _ => 0⟩)) (fun k => k ≤ v.m.length) (fun k => v.m.length - k) 0 (by omega) (Weak.intro ⟨kI, ⟨_, rfl, .of_eq (by simp [depthM])⟩, kI, kI, kI, trivial⟩ ⟨kJ, trivial⟩ rfl rfl) fun k hk => ?_
   refine kW ?_
   refine kC (fun hb => ?_) fun hb => ?_
   ·have hlt : k < v.m.length := by simpa [rowsM_len] using hb
    obtain ⟨⟨y, x⟩, hg⟩ : ∃ x, v.m[k]? = some x := ⟨_, List.getElem?_eq_getElem hlt⟩
    have hx := sizeM_take hg
    have hx2 := sizeM_take_le v.m (k + 1)
    have hd := depthM_take hg
    refine kW ?_
    refine kP [.c (.str y :: (vC (x)))] ?_ ?_
    ·((repeat' apply And.intro) <;> first | exact kD | (intro hgd; refine ⟨?_, kG⟩; (repeat' apply And.intro) <;> first | exact kD | skip) | skip)
     ·exact rowsM_at hg
    refine kW ?_
    refine kP [.v (.int .i64 x.depth)] ?_ ?_
    ·((repeat' apply And.intro) <;> first | exact kD | (intro hgd; refine ⟨?_, kG⟩; (repeat' apply And.intro) <;> first | exact kD | skip) | skip)
     ·exact ih x (by omega) (by omega)
    refine kW ?_
    refine AK.lp ⟨k + 1, by omega, Weak.intro ⟨kI, ⟨_, rfl, .of_eq (congrArg (AV.int _) ?_)⟩, kI, kI, kU, trivial⟩ ⟨kJ, trivial⟩ rfl rfl, by omega⟩
    exact (max_cast _ _).trans (congrArg Int.ofNat (by rw [hd]; omega))
   ·have hlt : k = v.m.length := by have : v.m.length ≤ k := by simpa [rowsM_len] using hb
                                    omega
    subst hlt
    rw [List.take_length]
    refine AK.exit rfl ?_
    refine kW ?_
    refine AK.ret ⟨_, rfl, ?_⟩
    rw [wrap_in (by omega) (by omega), hde]
    rfl
theorem run_idx6 (cs : Array Value) (j : Nat) (b : Bool) (hj : j < 6) (hu : cs[j]? = some (.bool b)) (w : World) : (Instr.index 234 (.agg cs) (.int .i64 j)).run Tryz.prog w = .ok (.bool b) w := by
 have h1 : ((j : Int) < 6) := by omega
 have h2 : ¬ 6 ≤ j := by omega
 simp [Instr.index, asIntOf, run_underlying Tryz.underlying234, h1, part, Tryz.isAgg4, Tryz.sizeOf4, hu, h2]
theorem wpList_index_arr {P : Program} {ops : Array Oper} {rest : List Oper} {tmps : Array Value} {df : List Deferred} {w : World} {Q : Exit → Act → World → Prop} {d : Option Tmp} {ty0 : TypeId} {ps : String} {af : Array Edge}
  (p q : Tmp) (ty : TypeId) (cs : Array Value) (i u : Value) (hp : tmps.getD p undef = .agg cs) (hq : tmps.getD q undef = i) (hrun : (Instr.index ty (.agg cs) i).run P w = .ok u w)
  (h : wpList P ops Q rest (({ tmps := tmps, defers := df } : Act).put d u) w) :
  wpList P ops Q ({ dst := d, op := .index ty (.tmp p) (.tmp q), type := ty0, pos := ps, after := af, guard := none } :: rest) { tmps := tmps, defers := df } w := by
 refine wpList_plain rfl fun K hK => ?_
 have e1 : ({ tmps := tmps, defers := df } : Act).eval (.tmp p) = .agg cs := hp
 have e2 : ({ tmps := tmps, defers := df } : Act).eval (.tmp q) = i := hq
 unfold Oper.wp execOp
 simp only [e1, e2, Sem.run_bind, Sem.run_pure, Result.andThen_ok, hrun]
 exact hK _ _ h
def kbAt (kind : Int) (b1 b2 b3 b4 b5 : Bool) (k : Nat) : Bool := (match k with | 1 => b1 | 2 => b2 | 3 => b3 | 4 => b4 | 5 => b5 | _ => false) && decide ((k : Int) ≠ kind)
def kbTo (kind : Int) (b1 b2 b3 b4 b5 : Bool) : Nat → Bool
 | 0 => true
 | k + 1 => kbTo kind b1 b2 b3 b4 b5 k && !kbAt kind b1 b2 b3 b4 b5 k
theorem kbTo_le {kind : Int} {b1 b2 b3 b4 b5 : Bool} {k : Nat} (h : kbAt kind b1 b2 b3 b4 b5 k = true) (n : Nat) : kbTo kind b1 b2 b3 b4 b5 (k + 1 + n) = false := by
 induction n with
 | zero => rw [Nat.add_zero, kbTo, h]; simp
 | succ n ih => rw [← Nat.add_assoc, kbTo, ih]; rfl
theorem kbTo_six (kind : Int) (b1 b2 b3 b4 b5 : Bool) : kbTo kind b1 b2 b3 b4 b5 6 = (!(b1 && decide ((1 : Int) ≠ kind)) && !(b2 && decide ((2 : Int) ≠ kind)) && !(b3 && decide ((3 : Int) ≠ kind)) && !(b4 && decide ((4 : Int) ≠ kind)) && !(b5 && decide ((5 : Int) ≠ kind))) := by
 simp only [kbTo, kbAt, Bool.true_and, Bool.false_and, Bool.not_false]
 rfl
set_option maxHeartbeats 4000000 in
set_option maxRecDepth 100000 in
theorem bare_any0 (kind : Int) (b : Bool) (n : Int) (s : ByteArray) (A1 A2 : Option Addr) (l m c1 c2 : Nat) (w : World) :
  Calls Tryz.prog 174 #[.agg #[.int .i64 kind, .bool b, .int .i64 n, .string s, .slice A1 l c1, .slice A2 m c2]] w fun e w' => e = .returned (.bool (kbTo kind b (n != 0) (!s.toList.isEmpty) (decide (0 < l)) (decide (0 < m)) 6 && (decide (0 ≤ kind) && decide (kind ≤ 5)))) ∧ Below w.heap.size w w' := by
 obtain ⟨R, hR⟩ : ∃ R, (kbTo kind b (n != 0) (!s.toList.isEmpty) (decide (0 < l)) (decide (0 < m)) 6 && (decide (0 ≤ kind) && decide (kind ≤ 5))) = R := ⟨_, rfl⟩
 rw [hR]
 go_enter Tryz.func174, Tryz.ntmps174
 go_wp2_with fail
 generalize (n != 0) = b2 at hR ⊢
 generalize (!s.toList.isEmpty) = b3 at hR ⊢
 generalize (decide (0 < l)) = b4 at hR ⊢
 generalize (decide (0 < m)) = b5 at hR ⊢
 have HR := Lib.hid hR
 clear hR
 obtain ⟨W, hW⟩ : ∃ W : World, W = (w.alloc (.cells #[.int .i64 kind, .bool b, .int .i64 n, .string s, .slice A1 l c1, .slice A2 m c2] 28)).alloc (.cells #[.bool false, .bool b, .bool b2, .bool b3, .bool b4, .bool b5] 234) := ⟨_, rfl⟩
 have k0 : W.cell? ⟨w.heap.size, 0, none⟩ = some (.int .i64 kind) := by
  rw [hW, World.cell?_alloc_lt _ _ _ (by simp), World.cell?_alloc_at _ _ _ _ rfl]; rfl
 have hbW : Below w.heap.size w W := by
  rw [hW]; exact ((Below.refl _ _).alloc (Nat.le_refl _) _).alloc (by simp) _
 rw [← hW]
 have HB := Lib.hid hbW
 clear hW hbW
 go_loopw [24] (fun i wr => ∃ k : Nat, k ≤ 6 ∧ i = .int .i64 k ∧ wr = W ∧ Hid (kbTo kind b b2 b3 b4 b5 k = true)) (fun i _ => 6 - (intOf i).toNat)
 case atStart => exact ⟨0, by omega, rfl, rfl, Lib.hid rfl⟩
 case round =>
  obtain ⟨k, hk, rfl, rfl, hT⟩ := hrel
  have hT' := hT.out
  clear hT
  have hcs : k = 0 ∨ k = 1 ∨ k = 2 ∨ k = 3 ∨ k = 4 ∨ k = 5 ∨ k = 6 := by omega
  have hst : k < 6 → kbAt kind b b2 b3 b4 b5 k = false → Hid (kbTo kind b b2 b3 b4 b5 (k + 1) = true) := fun _ h => Lib.hid (by rw [kbTo, hT', h]; rfl)
  have hbad : k < 6 → kbAt kind b b2 b3 b4 b5 k = true → R = false := fun h1 h => by
   rw [← HR.out]
   have := kbTo_le h (5 - k)
   rw [show k + 1 + (5 - k) = 6 by omega] at this
   rw [this]; rfl
  rcases hcs with rfl | rfl | rfl | rfl | rfl | rfl | rfl
  ·have H := hst (by omega) rfl
   clear hst hbad hT'
   go_wp2_with (refine wpList_index_arr 23 24 234 _ _ (.bool false) rfl rfl (run_idx6 _ 0 false (by omega) rfl _) ?_)
   go_roundw
   case rel => exact ⟨1, by omega, by go_num, trivial, H⟩
   case measure => simp [intOf]
  ·cases b with
   | false =>
    have H := hst (by omega) rfl
    clear hst hbad hT'
    go_wp2_with (refine wpList_index_arr 23 24 234 _ _ (.bool false) rfl rfl (run_idx6 _ 1 false (by omega) rfl _) ?_)
    go_roundw
    case rel => exact ⟨2, by omega, by go_num, trivial, H⟩
    case measure => simp [intOf]
   | true =>
    by_cases hkd : (1 : Int) = kind
    ·have H := hst (by omega) (by rw [kbAt]; simp [hkd])
     have hkd' : ((1 : Int) != kind) = false := by simp [hkd]
     clear hst hbad hT' hkd
     go_wp2_with (refine wpList_index_arr 23 24 234 _ _ (.bool true) rfl rfl (run_idx6 _ 1 true (by omega) rfl _) ?_)
     go_roundw
     case rel => exact ⟨2, by omega, by go_num, trivial, H⟩
     case measure => simp [intOf]
    ·have H := hbad (by omega) (by rw [kbAt]; simp [hkd])
     have hkd' : ((1 : Int) != kind) = true := by simp [hkd]
     clear hst hbad hT' hkd
     go_wp2_with (refine wpList_index_arr 23 24 234 _ _ (.bool true) rfl rfl (run_idx6 _ 1 true (by omega) rfl _) ?_)
     go_ret
     exact ⟨by rw [H]; rfl, HB.out⟩
  ·cases b2 with
   | false =>
    have H := hst (by omega) rfl
    clear hst hbad hT'
    go_wp2_with (refine wpList_index_arr 23 24 234 _ _ (.bool false) rfl rfl (run_idx6 _ 2 false (by omega) rfl _) ?_)
    go_roundw
    case rel => exact ⟨3, by omega, by go_num, trivial, H⟩
    case measure => simp [intOf]
   | true =>
    by_cases hkd : (2 : Int) = kind
    ·have H := hst (by omega) (by rw [kbAt]; simp [hkd])
     have hkd' : ((2 : Int) != kind) = false := by simp [hkd]
     clear hst hbad hT' hkd
     go_wp2_with (refine wpList_index_arr 23 24 234 _ _ (.bool true) rfl rfl (run_idx6 _ 2 true (by omega) rfl _) ?_)
     go_roundw
     case rel => exact ⟨3, by omega, by go_num, trivial, H⟩
     case measure => simp [intOf]
    ·have H := hbad (by omega) (by rw [kbAt]; simp [hkd])
     have hkd' : ((2 : Int) != kind) = true := by simp [hkd]
     clear hst hbad hT' hkd
     go_wp2_with (refine wpList_index_arr 23 24 234 _ _ (.bool true) rfl rfl (run_idx6 _ 2 true (by omega) rfl _) ?_)
     go_ret
     exact ⟨by rw [H]; rfl, HB.out⟩
  ·cases b3 with
   | false =>
    have H := hst (by omega) rfl
    clear hst hbad hT'
    go_wp2_with (refine wpList_index_arr 23 24 234 _ _ (.bool false) rfl rfl (run_idx6 _ 3 false (by omega) rfl _) ?_)
    go_roundw
    case rel => exact ⟨4, by omega, by go_num, trivial, H⟩
    case measure => simp [intOf]
   | true =>
    by_cases hkd : (3 : Int) = kind
    ·have H := hst (by omega) (by rw [kbAt]; simp [hkd])
     have hkd' : ((3 : Int) != kind) = false := by simp [hkd]
     clear hst hbad hT' hkd
     go_wp2_with (refine wpList_index_arr 23 24 234 _ _ (.bool true) rfl rfl (run_idx6 _ 3 true (by omega) rfl _) ?_)
     go_roundw
     case rel => exact ⟨4, by omega, by go_num, trivial, H⟩
     case measure => simp [intOf]
    ·have H := hbad (by omega) (by rw [kbAt]; simp [hkd])
     have hkd' : ((3 : Int) != kind) = true := by simp [hkd]
     clear hst hbad hT' hkd
     go_wp2_with (refine wpList_index_arr 23 24 234 _ _ (.bool true) rfl rfl (run_idx6 _ 3 true (by omega) rfl _) ?_)
     go_ret
     exact ⟨by rw [H]; rfl, HB.out⟩
  ·cases b4 with
   | false =>
    have H := hst (by omega) rfl
    clear hst hbad hT'
    go_wp2_with (refine wpList_index_arr 23 24 234 _ _ (.bool false) rfl rfl (run_idx6 _ 4 false (by omega) rfl _) ?_)
    go_roundw
    case rel => exact ⟨5, by omega, by go_num, trivial, H⟩
    case measure => simp [intOf]
   | true =>
    by_cases hkd : (4 : Int) = kind
    ·have H := hst (by omega) (by rw [kbAt]; simp [hkd])
     have hkd' : ((4 : Int) != kind) = false := by simp [hkd]
     clear hst hbad hT' hkd
     go_wp2_with (refine wpList_index_arr 23 24 234 _ _ (.bool true) rfl rfl (run_idx6 _ 4 true (by omega) rfl _) ?_)
     go_roundw
     case rel => exact ⟨5, by omega, by go_num, trivial, H⟩
     case measure => simp [intOf]
    ·have H := hbad (by omega) (by rw [kbAt]; simp [hkd])
     have hkd' : ((4 : Int) != kind) = true := by simp [hkd]
     clear hst hbad hT' hkd
     go_wp2_with (refine wpList_index_arr 23 24 234 _ _ (.bool true) rfl rfl (run_idx6 _ 4 true (by omega) rfl _) ?_)
     go_ret
     exact ⟨by rw [H]; rfl, HB.out⟩
  ·cases b5 with
   | false =>
    have H := hst (by omega) rfl
    clear hst hbad hT'
    go_wp2_with (refine wpList_index_arr 23 24 234 _ _ (.bool false) rfl rfl (run_idx6 _ 5 false (by omega) rfl _) ?_)
    go_roundw
    case rel => exact ⟨6, by omega, by go_num, trivial, H⟩
    case measure => simp [intOf]
   | true =>
    by_cases hkd : (5 : Int) = kind
    ·have H := hst (by omega) (by rw [kbAt]; simp [hkd])
     have hkd' : ((5 : Int) != kind) = false := by simp [hkd]
     clear hst hbad hT' hkd
     go_wp2_with (refine wpList_index_arr 23 24 234 _ _ (.bool true) rfl rfl (run_idx6 _ 5 true (by omega) rfl _) ?_)
     go_roundw
     case rel => exact ⟨6, by omega, by go_num, trivial, H⟩
     case measure => simp [intOf]
    ·have H := hbad (by omega) (by rw [kbAt]; simp [hkd])
     have hkd' : ((5 : Int) != kind) = true := by simp [hkd]
     clear hst hbad hT' hkd
     go_wp2_with (refine wpList_index_arr 23 24 234 _ _ (.bool true) rfl rfl (run_idx6 _ 5 true (by omega) rfl _) ?_)
     go_ret
     exact ⟨by rw [H]; rfl, HB.out⟩
  ·have hR2 := HR.out
   rw [hT', Bool.true_and] at hR2
   clear hst hbad hT' HR
   by_cases h0 : 0 ≤ kind
   ·by_cases h5 : kind ≤ 5
    ·have hRt : R = true := by rw [← hR2]; simp [h0, h5]
     clear hR2
     go_wp2
     go_ret
     exact ⟨by first | rfl | (rw [hRt]; rfl), HB.out⟩
    ·have hRf : R = false := by rw [← hR2]; simp [h5]
     clear hR2
     go_wp2
     go_ret
     exact ⟨by first | rfl | (rw [hRf]; rfl), HB.out⟩
   ·have hRf : R = false := by rw [← hR2]; simp [h0]
    clear hR2
    go_wp2
    go_ret
    exact ⟨by first | rfl | (rw [hRf]; rfl), HB.out⟩
theorem bare_kbad (kind : Int) (b : Bool) (n : Int) (s : ByteArray) (l m : Nat) : (kbTo kind b (n != 0) (!s.toList.isEmpty) (decide (0 < l)) (decide (0 < m)) 6 && (decide (0 ≤ kind) && decide (kind ≤ 5))) = !kbad kind b n s l m := by
 have hs : (!s.toList.isEmpty) = decide (s ≠ noBytes) := by
  by_cases h : s = noBytes
  ·subst h
   rw [show noBytes.toList = [] from Lib.toList_data _]
   simp
  ·rw [decide_eq_true h]
   have hz : ¬ s.size = 0 := fun e => h (ByteArray.ext (Array.eq_empty_of_size_eq_zero e))
   cases hl : s.toList with
   | nil =>
    exfalso
    rw [Lib.toList_data] at hl
    have : s.data.toList.length = s.size := rfl
    rw [hl] at this
    exact hz this.symm
   | cons a l => rfl
 rw [kbTo_six, hs]
 unfold kbad
 rw [Bool.eq_iff_iff]
 simp only [Bool.and_eq_true, Bool.not_eq_true', Bool.and_eq_false_iff, Bool.or_eq_false_iff, decide_eq_true_eq, decide_eq_false_iff_not, bne_iff_ne, ne_eq, bne_eq_false_iff_eq, Decidable.not_not, Nat.not_lt, Int.not_lt]
 constructor
 ·rintro ⟨⟨⟨⟨⟨h1, h2⟩, h3⟩, h4⟩, h5⟩, h0, h6⟩
  exact ⟨⟨⟨⟨⟨⟨h0, h6⟩, h1.symm.imp (fun e => e.symm) id⟩, h2.symm.imp (fun e => e.symm) id⟩, h3.symm.imp (fun e => e.symm) id⟩, h4.symm.imp (fun e => e.symm) id⟩, h5.symm.imp (fun e => e.symm) id⟩
 ·rintro ⟨⟨⟨⟨⟨⟨h0, h6⟩, h1⟩, h2⟩, h3⟩, h4⟩, h5⟩
  exact ⟨⟨⟨⟨⟨h1.symm.imp id (fun e => e.symm), h2.symm.imp id (fun e => e.symm)⟩, h3.symm.imp id (fun e => e.symm)⟩, h4.symm.imp id (fun e => e.symm)⟩, h5.symm.imp id (fun e => e.symm)⟩, h0, h6⟩
theorem tbare_a (v : V) : AC Tryz.prog 174 [(vA (v))] (.bool (!kbad v.kind v.b v.n v.s v.l.length v.m.length)) := by
 refine ⟨by kernel_rfl, fun σ w vs hh hr hg => ?_⟩
 obtain ⟨v1, rfl⟩ := List.length_eq_one_iff.1 hr.1
 have h1 : RelP σ v1 ((vA (v))) := hr.2 0 v1 _ rfl rfl
 obtain ⟨cs, rfl, hcs⟩ := h1
 have hlen := hcs.1
 obtain ⟨x1, x2, x3, x4, x5, x6, rfl⟩ : ∃ a b c d e f, cs = [a, b, c, d, e, f] := by
  rcases cs with _ | ⟨a, _ | ⟨b, _ | ⟨c, _ | ⟨d, _ | ⟨e, _ | ⟨f, _ | ⟨g, l⟩⟩⟩⟩⟩⟩⟩ <;> simp at hlen
  exact ⟨a, b, c, d, e, f, rfl⟩
 have r0 := hcs.2 0 x1 (.int .i64 v.kind) rfl rfl
 have r1 := hcs.2 1 x2 (.bool v.b) rfl rfl
 have r2 := hcs.2 2 x3 (.int .i64 v.n) rfl rfl
 have r3 := hcs.2 3 x4 (.str v.s) rfl rfl
 have r4 := hcs.2 4 x5 (.lst .any 6 (rowsV v.l)) rfl rfl
 have r5 := hcs.2 5 x6 (.lst .any 7 (rowsM v.m)) rfl rfl
 cases r0; cases r1; cases r2; cases r3
 obtain ⟨A1, c1, b1, o1, n1, rfl, _⟩ := lst_cells r4
 obtain ⟨A2, c2, b2, o2, n2, rfl, _⟩ := lst_cells r5
 have h := bare_any0 v.kind v.b v.n v.s A1 A2 (rowsV v.l).length (rowsM v.m).length c1 c2 w
 rw [bare_kbad, rowsV_len, rowsM_len] at h
 rw [rowsV_len, rowsM_len]
 refine h.mono ?_
 rintro e w' ⟨rfl, hb⟩
 exact ⟨σ, _, rfl, Ext.refl _ _, fun b q v hv => (hb.cell (p := ⟨b, q, none⟩) (World.block_lt_of_cell? w _ (hh _ _ _ hv))).trans (hh _ _ _ hv), hb, .bool _⟩
theorem treeText_a (s : ByteArray) (hs : s.size ≤ 140737488355328) : AC Tryz.prog 135 [.str s] (.bool (textB s)) := by
 refine kE Tryz.func135 a_tree_Text_ok a_tree_Text_cb fun E hE => ?_
 refine kW ?_
 refine AK.loopI (fun k : Nat => (frOf [(0, .str s), (6, .int .i64 s.size), (7, .int .i64 k)], ⟨boxOf [], fun _ => 0⟩)) (fun k => k ≤ s.size ∧ allTo okT s k) (fun k => s.size - k) 0 ⟨by omega, allTo_zero _ _⟩ (Weak.intro ⟨kI, kI, kI, trivial⟩ trivial rfl rfl) fun k ⟨hk, hno⟩ => ?_
 refine kW ?_
 refine kC (fun hb => ?_) fun hb => ?_
 ·have hlt : k < s.size := by simpa using hb
  refine kW ?_
  refine kQ [] ?_
  rw [show s.data.getD (k : Int).toNat 0 = s[k] from byte_at hlt]
  refine kW ?_
  refine kQ [] ?_
  refine kC (fun hb => ?_) fun hb => ?_
  ·refine kW ?_
   refine AK.ret ⟨_, rfl, ?_⟩
   have hf : okT s[k] = false := by
    simp only [Bool.or_eq_true, Bool.and_eq_true, Bool.not_eq_true', decide_eq_true_eq, decide_eq_false_iff_not] at hb
    simp only [okT, Bool.or_eq_false_iff, Bool.and_eq_false_iff, decide_eq_false_iff_not, beq_eq_false_iff_ne, ne_eq]
    omega
   rw [textB, allB_false hlt hf]
   rfl
  ·have ht : okT s[k] = true := by
    simp only [Bool.or_eq_false_iff, Bool.and_eq_false_iff, Bool.not_eq_false', decide_eq_true_eq, decide_eq_false_iff_not] at hb
    simp only [okT, Bool.or_eq_true, Bool.and_eq_true, decide_eq_true_eq, beq_iff_eq]
    omega
   refine kW ?_
   exact AK.lp ⟨k + 1, ⟨by omega, allTo_succ hno hlt ht⟩, Weak.intro ⟨kI, kI, kU, trivial⟩ trivial rfl rfl, by omega⟩
 ·have hlt : k = s.size := by have : s.size ≤ k := by simpa using hb
                              omega
  subst hlt
  refine AK.exit rfl ?_
  refine kW ?_
  refine AK.ret ⟨_, rfl, ?_⟩
  show AV.bool _ = AV.bool _
  refine congrArg AV.bool ?_
  rw [textB, allB_true hno, Bool.eq_iff_iff]
  simp
  try omega
abbrev emV : V := .mk 5 false 0 ⟨#[]⟩ [] []
theorem emV_depth : V.depth emV = 1 := by decide +kernel
theorem emV_size : V.size emV = 1 := by decide +kernel
theorem partsE_a : AC Tryz.prog 123 [(vA (emV))] (.int .i64 0) := by
 have hb := tbare_a emV
 rw [show (!kbad emV.kind emV.b emV.n emV.s emV.l.length emV.m.length) = true by decide +kernel] at hb
 have ht := treeText_a ⟨#[]⟩ (by decide)
 rw [show textB ⟨#[]⟩ = true by decide +kernel] at ht
 refine kE Tryz.func123 a_tree_parts_ok a_tree_parts_cb fun E hE => ?_
 refine kW ?_
 refine kQ [.v (.bool true)] ?_
 refine kCf ?_
 refine kW ?_
 refine kQ [.v (.bool true)] ?_
 refine kCf ?_
 refine kW ?_
 refine AK.loopI (fun _ : Unit => (frOf [(1, .ptr 1 0), (19, .lst .any 6 []), (20, .int .i64 0), (21, .int .i64 0)], ⟨boxOf [(1, (vC (emV)), false)], fun _ => 0⟩)) (fun _ => True) (fun _ => 0) () trivial (Weak.intro ⟨kI, kI, kI, kI, trivial⟩ ⟨kJ, trivial⟩ rfl rfl) fun _ _ => ?_
 refine kW ?_
 refine kCf ?_
 refine AK.exit rfl ?_
 refine kW ?_
 refine AK.loopI (fun _ : Unit => (frOf [(1, .ptr 1 0), (32, .lst .any 7 []), (33, .int .i64 0), (34, .int .i64 0)], ⟨boxOf [(1, (vC (emV)), false)], fun _ => 0⟩)) (fun _ => True) (fun _ => 0) () trivial (Weak.intro ⟨kI, kI, kI, kI, trivial⟩ ⟨kJ, trivial⟩ rfl rfl) fun _ _ => ?_
 refine kW ?_
 refine kCf ?_
 refine AK.exit rfl ?_
 refine kW ?_
 refine AK.ret ⟨_, rfl, ?_⟩
 rfl
theorem checkE_a : AC Tryz.prog 78 [(vA (emV))] (.int .i64 0) := by
 have h1 := treeDepth_a 1 emV (by decide +kernel) (by decide +kernel)
 have h2 := treeSize_a 1 emV (by decide +kernel) (by decide +kernel)
 rw [emV_depth] at h1
 rw [emV_size] at h2
 have h3 := partsE_a
 refine kE Tryz.func78 a_tree_Check_ok a_tree_Check_cb fun E hE => ?_
 refine kW ?_
 refine kQ [.v (.int .i64 1)] ?_
 refine kCf ?_
 refine kW ?_
 refine kQ [.v (.int .i64 1)] ?_
 refine kCf ?_
 refine kW ?_
 refine kQ [.v (.int .i64 0)] ?_
 refine kW ?_
 refine AK.ret ⟨_, rfl, ?_⟩
 rfl
abbrev idK (a b c : ByteArray) : List AV := [.str a, .str b, .str c]
def idOk (a b c : ByteArray) : Prop := (wordOkB a && wordOkB b && wordOkB c) = true ∧ a.size ≤ 64 ∧ b.size ≤ 64 ∧ c.size ≤ 64
theorem wrong_a {a b c : ByteArray} (h : idOk a b c) : AC Tryz.prog 42 [.agg (idK a b c), (vA (emV))] (.int .i64 0) := by
 have hr := right_a a b c (by have := h.2.1; omega) (by have := h.2.2.1; omega) (by have := h.2.2.2; omega)
 rw [h.1] at hr
 have hc := checkE_a
 refine kE Tryz.func42 a_cluster_wrong_ok a_cluster_wrong_cb fun E hE => ?_
 refine kW ?_
 refine kQ [.v (.bool true)] ?_
 refine kCf ?_
 refine kW ?_
 refine kQ [.v (.int .i64 0)] ?_
 refine kW ?_
 refine AK.ret ⟨_, rfl, ?_⟩
 rfl
end Go.Proofs.YtgidajjjpeboeaaGreatDoor
