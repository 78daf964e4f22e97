/-
  The texts that the claim wants, one behind the other: part 18.
-/
import Derived.Test.YtgidajjjpeboeaaGreatDoorS17
import Derived.BigQuiet
import Derived.Test.YtgidajjjpeboeaaGreatDoorChecked
import Derived.KernelRfl
set_option linter.unusedSimpArgs false
set_option linter.unusedVariables false
namespace Go.Proofs.YtgidajjjpeboeaaGreatDoor
open Go.RowKit
theorem relOne {σ : Sg} {v : Value} {a : AV} (h : RelP σ v a) : RelPs σ [v] [a] := ⟨rfl, fun j u x hu hx => by
 rcases j with _ | j <;> simp at hu hx
 subst hu hx
 exact h⟩
theorem ac_bool {f : FuncId} {args : List AV} {b : Bool} (h : AC Tryz.prog f args (.bool b)) {σ : Sg} {w : World} {vs : List Value} (hh : Holds σ w) (hr : RelPs σ vs args) (hg : GW w) : Calls Tryz.prog f vs.toArray w fun e w' => e = .returned (.bool b) ∧ Below w.heap.size w w' := by
 refine (h.run σ w vs hh hr hg).mono ?_
 rintro e w' ⟨σ', v, rfl, _, _, hb, hr⟩
 have hr : Rel1 σ' v (.bool b) := hr
 cases hr
 exact ⟨rfl, hb⟩
theorem wpList_index_arr3 {P : Program} {ops : Array Oper} {rest : List Oper} {tmps : Array Value} {df : List Deferred} {w : World} {Q : Exit → Act → World → Prop} {d : Option Tmp} {ty0 : TypeId} {ps : String} {af : Array Edge}
  (p q : Tmp) (ty : TypeId) (cs : Array Value) (i u : Value) (hp : tmps.getD p undef = .agg cs) (hq : tmps.getD q undef = i) (hrun : (Instr.index ty (.agg cs) i).run P w = .ok u w)
  (h : wpList P ops Q rest (({ tmps := tmps, defers := df } : Act).put d u) w) :
  wpList P ops Q ({ dst := d, op := .index ty (.tmp p) (.tmp q), type := ty0, pos := ps, after := af, guard := none } :: rest) { tmps := tmps, defers := df } w := by
 refine wpList_plain rfl fun K hK => ?_
 have e1 : ({ tmps := tmps, defers := df } : Act).eval (.tmp p) = .agg cs := hp
 have e2 : ({ tmps := tmps, defers := df } : Act).eval (.tmp q) = i := hq
 unfold Oper.wp execOp
 simp only [e1, e2, Sem.run_bind, Sem.run_pure, Result.andThen_ok, hrun]
 exact hK _ _ h
theorem run_idx3 (cs : Array Value) (j : Nat) (x : ByteArray) (hj : j < 3) (hu : cs[j]? = some (.string x)) (w : World) : (Instr.index 180 (.agg cs) (.int .i64 j)).run Tryz.prog w = .ok (.string x) w := by
 have h1 : ((j : Int) < 3) := by omega
 have h2 : ¬ 3 ≤ j := by omega
 simp [Instr.index, asIntOf, run_underlying Tryz.underlying180, h1, part, Tryz.isAgg9, Tryz.sizeOf9, hu, h2]
set_option maxHeartbeats 2000000 in
set_option maxRecDepth 100000 in
theorem right_any (a b c : ByteArray) (ha : a.size ≤ 140737488355328) (hb : b.size ≤ 140737488355328) (hc : c.size ≤ 140737488355328) (w : World) (hg : GW w) :
  Calls Tryz.prog 77 #[.agg #[.string a, .string b, .string c]] w fun e w' => e = .returned (.bool (wordOkB a && wordOkB b && wordOkB c)) ∧ Below w.heap.size w w' := by
 obtain ⟨R, hR⟩ : ∃ R, (wordOkB a && wordOkB b && wordOkB c) = R := ⟨_, rfl⟩
 rw [hR]
 have hB : ∀ x : ByteArray, x.size ≤ 140737488355328 → ∀ w', Below w.heap.size w w' → Calls Tryz.prog 95 #[.string x] w' fun e w2 => e = .returned (.bool (bareB x)) ∧ Below w'.heap.size w' w2 := fun x hx w' h => ac_bool (σ := fun _ _ => none) (vs := [.string x]) (bare_a x hx) (fun _ _ _ h => by cases h) (relOne (.str _)) (hg.below h)
 have hC : ∀ x : ByteArray, ∀ w', Below w.heap.size w w' → Calls Tryz.prog 96 #[.string x, .string ⟨#[47]⟩] w' fun e w2 => e = .returned (.bool (!noSl x)) ∧ Below w'.heap.size w' w2 := fun x w' h => ac_bool (σ := fun _ _ => none) (vs := [.string x, .string ⟨#[47]⟩]) (contains47_a x) (fun _ _ _ h => by cases h) ⟨rfl, fun j v u hv hu => by
  rcases j with _ | _ | j <;> simp at hv hu <;> (subst hv hu; exact Rel1.str _)⟩ (hg.below h)
 have hall : ∀ (j : Nat) (x : ByteArray), [a, b, c][j]? = some x → x.size ≤ 140737488355328 := fun j x h => by
  rcases j with _ | _ | _ | j <;> simp at h <;> subst h <;> assumption
 have hcell : ∀ (j : Nat) (x : ByteArray), [a, b, c][j]? = some x → (#[.string a, .string b, .string c] : Array Value)[j]? = some (.string x) := fun j x h => by
  rcases j with _ | _ | _ | j <;> simp at h <;> subst h <;> rfl
 have hbad : ∀ (j : Nat) (x : ByteArray), [a, b, c][j]? = some x → wordOkB x = false → R = false := fun j x h hx => by
  rw [← hR]
  rcases j with _ | _ | _ | j <;> simp at h <;> subst h <;> simp [hx]
 have hgood : (∀ (j : Nat) (x : ByteArray), j < 3 → [a, b, c][j]? = some x → wordOkB x = true) → R = true := fun h => by
  rw [← hR, h 0 a (by omega) rfl, h 1 b (by omega) rfl, h 2 c (by omega) rfl]; rfl
 have HB := Lib.hid hB
 have HC := Lib.hid hC
 have H1 := Lib.hid hall
 have H2 := Lib.hid hcell
 have H3 := Lib.hid hbad
 have H4 := Lib.hid hgood
 clear hB hC hall hcell hbad hgood hg hR
 go_enter Tryz.func77, Tryz.ntmps77
 go_wp2_with fail
 go_loopw [12] (fun i wr => ∃ k : Nat, k ≤ 3 ∧ i = .int .i64 k ∧ Below w.heap.size w wr ∧ Hid (∀ (j : Nat) (x : ByteArray), j < k → [a, b, c][j]? = some x → wordOkB x = true)) (fun i _ => 3 - (intOf i).toNat)
 case atStart => exact ⟨0, by omega, rfl, (Below.refl _ _).alloc (Nat.le_refl _) _, Lib.hid fun j x h => by omega⟩
 case round =>
  obtain ⟨k, hk, rfl, hb0, hT⟩ := hrel
  by_cases hlt : k < 3
  ·obtain ⟨x, hx⟩ : ∃ x, [a, b, c][k]? = some x := ⟨_, List.getElem?_eq_getElem hlt⟩
   have hxz := H1.out k x hx
   have hcx := H2.out k x hx
   have hcB := HB.out x hxz wr hb0
   have hbad : wordOkB x = false → Hid (R = false) := fun h => Lib.hid (H3.out k x hx h)
   have hgo : wordOkB x = true → Hid (∀ (j : Nat) (x : ByteArray), j < k + 1 → [a, b, c][j]? = some x → wordOkB x = true) := fun h => Lib.hid fun j y hj hy => by
    by_cases e : j = k
    ·subst e; rw [hx] at hy; cases hy; exact h
    ·exact hT.out j y (by omega) hy
   unfold wordOkB at hbad hgo
   clear hx hT
   cases h1 : bareB x with
   | false =>
    rw [h1] at hcB hbad
    have HN := hbad (by simp)
    clear hbad hgo
    go_wp2_with (first | refine wpList_index_arr3 11 12 180 _ _ (.string x) rfl rfl (run_idx3 _ k x hlt hcx _) ?_ | (go_at_call 95; refine hcB.mono ?_; rintro e w1 ⟨rfl, b1⟩))
    go_ret
    exact ⟨by rw [HN.out]; rfl, hb0.trans (b1.mono hb0.size)⟩
   | true =>
    rw [h1] at hcB hbad hgo
    have hcC : ∀ w1, Below wr.heap.size wr w1 → Calls Tryz.prog 96 #[.string x, .string ⟨#[47]⟩] w1 fun e w2 => e = .returned (.bool (!noSl x)) ∧ Below w1.heap.size w1 w2 := fun w1 b1 => HC.out x w1 (hb0.trans (b1.mono hb0.size))
    cases h2 : noSl x with
    | false =>
     rw [h2] at hcC hbad
     have HN := hbad (by simp)
     clear hbad hgo
     go_wp2_with (first | refine wpList_index_arr3 11 12 180 _ _ (.string x) rfl rfl (run_idx3 _ k x hlt hcx _) ?_ | (go_at_call 95; refine hcB.mono ?_; rintro e w1 ⟨rfl, b1⟩) | (go_at_call 96; refine (hcC w1 b1).mono ?_; rintro e w2 ⟨rfl, b2⟩))
     go_ret
     exact ⟨by rw [HN.out]; rfl, (hb0.trans (b1.mono hb0.size)).trans (b2.mono (Nat.le_trans hb0.size b1.size))⟩
    | true =>
     rw [h2] at hcC hbad hgo
     by_cases hz : x.size ≤ 64
     ·have HN := hgo (by simpa using hz)
      have hz' : ¬ (64 : Int) < x.size := by omega
      clear hbad hgo
      go_wp2_with (first | refine wpList_index_arr3 11 12 180 _ _ (.string x) rfl rfl (run_idx3 _ k x hlt hcx _) ?_ | (go_at_call 95; refine hcB.mono ?_; rintro e w1 ⟨rfl, b1⟩) | (go_at_call 96; refine (hcC w1 b1).mono ?_; rintro e w2 ⟨rfl, b2⟩))
      go_wp2
      go_roundw
      case rel => exact ⟨k + 1, by omega, by go_num, (hb0.trans (b1.mono hb0.size)).trans (b2.mono (Nat.le_trans hb0.size b1.size)), HN⟩
      case measure => simp [intOf]; omega
     ·have HN := hbad (by simpa using hz)
      have hz' : (64 : Int) < x.size := by omega
      clear hbad hgo
      go_wp2_with (first | refine wpList_index_arr3 11 12 180 _ _ (.string x) rfl rfl (run_idx3 _ k x hlt hcx _) ?_ | (go_at_call 95; refine hcB.mono ?_; rintro e w1 ⟨rfl, b1⟩) | (go_at_call 96; refine (hcC w1 b1).mono ?_; rintro e w2 ⟨rfl, b2⟩))
      go_ret
      exact ⟨by rw [HN.out]; rfl, (hb0.trans (b1.mono hb0.size)).trans (b2.mono (Nat.le_trans hb0.size b1.size))⟩
  ·have hk3 : k = 3 := by omega
   subst hk3
   have HN := Lib.hid (H4.out hT.out)
   clear hT
   go_wp2_with fail
   go_ret
   exact ⟨by rw [HN.out]; rfl, hb0⟩
theorem right_a (a b c : ByteArray) (ha : a.size ≤ 140737488355328) (hb : b.size ≤ 140737488355328) (hc : c.size ≤ 140737488355328) : AC Tryz.prog 77 [.agg [.str a, .str b, .str c]] (.bool (wordOkB a && wordOkB b && wordOkB c)) := by
 refine ⟨by kernel_rfl, fun σ w vs hh hr hg => ?_⟩
 obtain ⟨v, rfl⟩ : ∃ v, vs = [v] := List.length_eq_one_iff.1 hr.1
 obtain ⟨us, rfl, h1⟩ := (hr.2 0 v _ rfl rfl : RelP σ v (.agg [.str a, .str b, .str c]))
 obtain ⟨x, y, z, rfl⟩ : ∃ x y z, us = [x, y, z] := by
  have := h1.1
  rcases us with _ | ⟨x, _ | ⟨y, _ | ⟨z, _ | ⟨u, l⟩⟩⟩⟩ <;> simp at this
  exact ⟨x, y, z, rfl⟩
 cases h1.head
 cases h1.tail.head
 cases h1.tail.tail.head
 refine (right_any a b c ha hb hc w hg).mono ?_
 rintro e w' ⟨rfl, hB⟩
 exact ⟨σ, _, rfl, Ext.refl _ _, hh.on hB, hB, .bool _⟩
end Go.Proofs.YtgidajjjpeboeaaGreatDoor
namespace Go.Proofs.YtgidajjjpeboeaaGreatDoor
set_option maxRecDepth 100000
def b_tree_Check : ACode :=
 .seq (gQ [gP 1 0, gJ 2 0]) (.seq (.block 0 (.seq (gQ [gA 4 6 1, gC 5 121 [.s 4], gU 6 .gtr 5 16, gM 3 6]) (.cond (.s 3) (.seq (gQ [gJ 2 5]) .ret) (.seq (gQ [gA 8 6 1, gC 9 122 [.s 8], gU 10 .gtr 9 4096, gM 7 10]) (.cond (.s 7) (.seq (gQ [gJ 2 6]) .ret) .skip))))) (.seq (gQ [gA 11 6 1, gC 12 123 [.s 11], gM 2 12]) .ret))
def a_tree_Check : AFn := ⟨1, 13, b_tree_Check, [.tmp 2]⟩
theorem a_tree_Check_ok : fnAF Tryz.prog [] Tryz.f78 = some a_tree_Check := by kernel_rfl
theorem a_tree_Check_cb : callable Tryz.prog 78 = true := by kernel_rfl
def b_tree_Size : ACode :=
 .seq (gQ [gP 1 0, gJ 2 0]) (.seq (gQ [gJ 3 1]) (.seq (.seq (gQ [gF 8 4 1, gL 9 8, gH 10 false 9, gJ 11 0]) (.block 0 (.loop (.seq (gQ [gV 12 .lss 11 10]) (.seq (.cond (.s 12) .skip (.exit 0)) (.seq (.block 1 (.seq (gQ [gE 13 6 9 11, gA 14 6 13, ⟨gO, .alloc 5 gZ⟩, gT 6 5 14]) (.reg [gM 15 3, gA 16 6 5, gC 17 122 [.s 16], gV 18 .add 15 17, gM 3 18]))) (.reg [gU 19 .add 11 1, gM 11 19]))))))) (.seq (.seq (gQ [gF 20 5 1, gL 21 20, gH 22 false 21, gJ 23 0]) (.block 2 (.loop (.seq (gQ [gV 24 .lss 23 22]) (.seq (.cond (.s 24) .skip (.exit 2)) (.seq (.block 3 (.seq (gQ [gE 25 7 21 23, gA 26 7 25, ⟨gO, .alloc 7 [.str ⟨#[]⟩, .int .i64 0, .bool false, .int .i64 0, .str ⟨#[]⟩, .lst .nil 6 [], .lst .nil 7 []]⟩, gT 7 7 26]) (.reg [gM 27 3, gF 28 1 7, gA 29 6 28, gC 30 122 [.s 29], gV 31 .add 27 30, gM 3 31]))) (.reg [gU 32 .add 23 1, gM 23 32]))))))) (.seq (gQ [gM 33 3, gM 2 33]) .ret))))
def a_tree_Size : AFn := ⟨1, 34, b_tree_Size, [.tmp 2]⟩
theorem a_tree_Size_ok : fnAF Tryz.prog [] Tryz.f122 = some a_tree_Size := by kernel_rfl
theorem a_tree_Size_cb : callable Tryz.prog 122 = true := by kernel_rfl
def b_tree_Depth : ACode :=
 .seq (gQ [gP 1 0, gJ 2 0]) (.seq (gQ [gJ 3 0]) (.seq (.seq (gQ [gF 8 4 1, gL 9 8, gH 10 false 9, gJ 11 0]) (.block 0 (.loop (.seq (gQ [gV 12 .lss 11 10]) (.seq (.cond (.s 12) .skip (.exit 0)) (.seq (.block 1 (.seq (gQ [gE 13 6 9 11, gA 14 6 13, ⟨gO, .alloc 5 gZ⟩, gT 6 5 14]) (.reg [gM 15 3, gA 16 6 5, gC 17 121 [.s 16], ⟨gO, .mx 18 (.s 15) (.s 17)⟩, gM 3 18]))) (.reg [gU 19 .add 11 1, gM 11 19]))))))) (.seq (.seq (gQ [gF 20 5 1, gL 21 20, gH 22 false 21, gJ 23 0]) (.block 2 (.loop (.seq (gQ [gV 24 .lss 23 22]) (.seq (.cond (.s 24) .skip (.exit 2)) (.seq (.block 3 (.seq (gQ [gE 25 7 21 23, gA 26 7 25, ⟨gO, .alloc 7 [.str ⟨#[]⟩, .int .i64 0, .bool false, .int .i64 0, .str ⟨#[]⟩, .lst .nil 6 [], .lst .nil 7 []]⟩, gT 7 7 26]) (.reg [gM 27 3, gF 28 1 7, gA 29 6 28, gC 30 121 [.s 29], ⟨gO, .mx 31 (.s 27) (.s 30)⟩, gM 3 31]))) (.reg [gU 32 .add 23 1, gM 23 32]))))))) (.seq (gQ [gM 33 3, gU 34 .add 33 1, gM 2 34]) .ret))))
def a_tree_Depth : AFn := ⟨1, 35, b_tree_Depth, [.tmp 2]⟩
theorem a_tree_Depth_ok : fnAF Tryz.prog [] Tryz.f121 = some a_tree_Depth := by kernel_rfl
theorem a_tree_Depth_cb : callable Tryz.prog 121 = true := by kernel_rfl
def b_tree_parts : ACode :=
 .seq (gQ [gP 1 0, gJ 2 0]) (.seq (.block 0 (.seq (gQ [gA 10 6 1, gC 11 174 [.s 10], ⟨gO, .un 12 .not (.s 11)⟩, gM 9 12]) (.cond (.s 9) (.seq (gQ [gJ 2 8]) .ret) (.seq (gQ [gF 14 3 1, gL 15 14, gC 16 135 [.s 15], ⟨gO, .un 17 .not (.s 16)⟩, gM 13 17]) (.cond (.s 13) (.seq (gQ [gJ 2 10]) .ret) .skip))))) (.seq (.seq (gQ [gF 18 4 1, gL 19 18, gH 20 false 19, gJ 21 0]) (.block 1 (.loop (.seq (gQ [gV 22 .lss 21 20]) (.seq (.cond (.s 22) .skip (.exit 1)) (.seq (.block 2 (.seq (gQ [gE 23 6 19 21, gA 24 6 23, ⟨gO, .alloc 4 gZ⟩, gT 6 4 24]) (.seq (gQ [gA 25 6 4, gC 26 123 [.s 25], gM 5 26]) (.seq (gQ [gM 27 5, gU 28 .neq 27 0]) (.cond (.s 28) (.seq (gQ [gM 29 5, gM 2 29]) .ret) .skip))))) (.reg [gU 30 .add 21 1, gM 21 30]))))))) (.seq (.seq (gQ [gF 31 5 1, gL 32 31, gH 33 false 32, gJ 34 0]) (.block 3 (.loop (.seq (gQ [gV 35 .lss 34 33]) (.seq (.cond (.s 35) .skip (.exit 3)) (.seq (.block 4 (.seq (gQ [gM 36 34, gE 37 7 32 34, gA 38 7 37, ⟨gO, .alloc 7 [.str ⟨#[]⟩, .int .i64 0, .bool false, .int .i64 0, .str ⟨#[]⟩, .lst .nil 6 [], .lst .nil 7 []]⟩, gM 6 36, gT 7 7 38]) (.seq (.block 5 (.seq (gQ [gF 40 0 7, gL 41 40, gC 42 175 [.s 41], ⟨gO, .un 43 .not (.s 42)⟩, gM 39 43]) (.cond (.s 39) (.seq (gQ [gJ 2 7]) .ret) (.seq (gQ [gM 45 6, gU 46 .gtr 45 0, gM 47 46, ⟨some (47, true), .off 48 5 (.s 1)⟩, ⟨some (47, true), .ld 49 1 false (.s 48)⟩, gN 47 true 50 6, ⟨some (47, true), .bin 51 .sub false (.s 50) (gI 1)⟩, ⟨some (47, true), .idx 52 7 (.s 49) (.s 51)⟩, ⟨some (47, true), .off 53 0 (.s 52)⟩, ⟨some (47, true), .ld 54 1 false (.s 53)⟩, ⟨some (47, true), .off 55 0 (.s 7)⟩, ⟨some (47, true), .ld 56 1 false (.s 55)⟩, ⟨some (47, true), .bin 57 .geq false (.s 54) (.s 56)⟩, ⟨gO, .pick 58 (.s 47) (.s 57) (.k (.bool false))⟩, gM 44 58]) (.cond (.s 44) (.seq (gQ [gJ 2 13]) .ret) .skip))))) (.seq (gQ [gF 59 1 7, gA 60 6 59, gC 61 123 [.s 60], gM 8 61]) (.seq (gQ [gM 62 8, gU 63 .neq 62 0]) (.cond (.s 63) (.seq (gQ [gM 64 8, gM 2 64]) .ret) .skip)))))) (.reg [gU 65 .add 34 1, gM 34 65]))))))) (.seq (gQ [gJ 2 0]) .ret))))
def a_tree_parts : AFn := ⟨1, 66, b_tree_parts, [.tmp 2]⟩
theorem a_tree_parts_ok : fnAF Tryz.prog [] Tryz.f123 = some a_tree_parts := by kernel_rfl
theorem a_tree_parts_cb : callable Tryz.prog 123 = true := by kernel_rfl
def b_tree_Key : ACode :=
 .seq (gQ [⟨gO, .mov 2 (.k (.bool false))⟩]) (.seq (gQ [gM 3 0, ⟨gO, gB 4 .neq (.s 3) (gS ⟨#[]⟩)⟩, gM 5 4, gN 5 true 6 0, ⟨some (5, true), .len 7 true (.s 6)⟩, ⟨some (5, true), .bin 8 .leq false (.s 7) (gI 256)⟩, ⟨gO, .pick 9 (.s 5) (.s 8) (.k (.bool false))⟩, gM 10 9, gN 10 true 11 0, ⟨some (10, true), .call (some 12) (.k (.fn 135 [])) [.s 11]⟩, ⟨gO, .pick 13 (.s 10) (.s 12) (.k (.bool false))⟩, gM 14 13, gN 14 true 15 0, ⟨some (14, true), .call (some 16) (.k (.fn 96 [])) [.s 15, gS ⟨#[10]⟩]⟩, ⟨some (14, true), .un 17 .not (.s 16)⟩, ⟨gO, .pick 18 (.s 14) (.s 17) (.k (.bool false))⟩, gM 19 18, gN 19 true 20 0, ⟨some (19, true), .call (some 21) (.k (.fn 96 [])) [.s 20, gS ⟨#[9]⟩]⟩, ⟨some (19, true), .un 22 .not (.s 21)⟩, ⟨gO, .pick 23 (.s 19) (.s 22) (.k (.bool false))⟩, gM 2 23]) .ret)
def a_tree_Key : AFn := ⟨1, 24, b_tree_Key, [.tmp 2]⟩
theorem a_tree_Key_ok : fnAF Tryz.prog [] Tryz.f175 = some a_tree_Key := by kernel_rfl
theorem a_tree_Key_cb : callable Tryz.prog 175 = true := by kernel_rfl
end Go.Proofs.YtgidajjjpeboeaaGreatDoor
namespace Go.Proofs.YtgidajjjpeboeaaGreatDoor
open Go.RowKit
theorem lst_cells {σ : Sg} {v : Value} {t : Tag} {esz : Nat} {l : List (List AV)} (h : Rel1 σ v (.lst t esz l)) : ∃ (A : Option Addr) (cap b o : Nat) (news : List Value), v = .slice A l.length cap ∧ l.length ≤ cap ∧ (0 < l.length → A = some ⟨b, o, none⟩) ∧ (∀ c ∈ l, c.length = esz) ∧
  news.length = l.length * esz ∧ RelL σ news l.flatten ∧ ∀ (q : Nat) u, news[q]? = some u → σ b (o + q) = some u := by
 cases h with
 | lst t esz l A n cap b o f hn hlen hA hsz hσ hr ht =>
  subst hn
  have hsz' : ∀ c ∈ l, c.length = esz := fun c hc => by
   obtain ⟨i, hi⟩ := List.getElem?_of_mem hc
   exact hsz i c hi
  have hfl : ∀ l : List (List AV), (∀ c ∈ l, c.length = esz) → l.flatten.length = l.length * esz := by
   intro l
   induction l with
   | nil => intro _; simp
   | cons x l ih => intro hx; rw [List.flatten_cons, List.length_append, List.length_cons, ih fun c hc => hx c (by simp [hc]), hx x (by simp), Nat.add_mul]; omega
  have hat : ∀ (l : List (List AV)) (i j : Nat) (c : List AV) (a : AV), (∀ c ∈ l, c.length = esz) → l[i]? = some c → c[j]? = some a → l.flatten[i * esz + j]? = some a := by
   intro l
   induction l with
   | nil => intro i j c a _ h; simp at h
   | cons y l ih =>
    intro i j c a hx hc ha
    have hy := hx y (by simp)
    rw [List.flatten_cons]
    cases i with
    | zero =>
     simp at hc
     subst hc
     rw [Nat.zero_mul, Nat.zero_add, List.getElem?_append_left (List.getElem?_eq_some_iff.1 ha).1]
     exact ha
    | succ i =>
     rw [List.getElem?_append_right (by rw [hy, Nat.add_mul]; omega), hy, show (i + 1) * esz + j - esz = i * esz + j by rw [Nat.add_mul]; omega]
     exact ih i j c a (fun c hc => hx c (by simp [hc])) (by simpa using hc) ha
  refine ⟨A, cap, b, o, flatV l.length esz f, rfl, hlen, hA, hsz', flatV_len _ _ _, ⟨by rw [flatV_len, hfl l hsz'], fun q v a hv ha => ?_⟩, fun q u hu => flatV_cells hσ q u hu⟩
  have hq : q < l.length * esz := by have := (List.getElem?_eq_some_iff.1 hv).1; rwa [flatV_len] at this
  have he : 0 < esz := by
   rcases Nat.eq_zero_or_pos esz with h | h
   ·subst h; omega
   ·exact h
  rw [flatV_at f hq] at hv
  cases hv
  have h1 : q / esz < l.length := Nat.div_lt_of_lt_mul (by rw [Nat.mul_comm]; exact hq)
  have h2 : l[q / esz]? = some l[q / esz] := List.getElem?_eq_getElem h1
  have h3 : q % esz < (l[q / esz]).length := by rw [hsz _ _ h2]; exact Nat.mod_lt _ he
  have h4 := List.getElem?_eq_getElem h3
  have h5 := hat l _ _ _ _ hsz' h2 h4
  have e : q / esz * esz + q % esz = q := by
   have := Nat.div_add_mod q esz
   rw [Nat.mul_comm] at this
   exact this
  rw [e, ha] at h5
  cases h5
  exact hr _ _ _ _ h2 h4
end Go.Proofs.YtgidajjjpeboeaaGreatDoor
