/-
  The texts that the claim wants, one behind the other: part 28.
-/
import Derived.Test.YtgidajjjpeboeaaGreatDoorS27
import Derived.Test.YtgidajjjpeboeaaGreatDoorChecked
import Derived.KernelRfl
import Derived.BigQuiet
set_option linter.unusedSimpArgs false
set_option linter.unusedVariables false
namespace Go.Proofs.YtgidajjjpeboeaaGreatDoor
set_option maxRecDepth 100000
def b_cluster_New : ACode :=
 .seq (gQ [⟨gO, .mov 2 (.k (.raw (Value.pointer none)))⟩]) (.seq (gQ [⟨gO, .mop (MO.new 68) (some 3) []⟩, gM 4 0, ⟨gO, .build 5 [.raw (Value.map none), .int .i64 0, .lst .nil 1 [], .int .i64 0, .bool false, .raw (Value.pointer none)] [(0, 1, .s 3), (3, 1, .k (.int .i64 (-1))), (5, 1, .s 4)]⟩, gP 6 5, gM 2 6]) .ret)
def a_cluster_New : AFn := ⟨1, 7, b_cluster_New, [.tmp 2]⟩
theorem a_cluster_New_ok : fnAF Tryz.prog [2000036, 2000025, 2000037, 2000050, 2000043, 2000045, 2000028, 2000012, 2000013, 2000014, 2000018, 2000011, 2000008] Tryz.f8 = some a_cluster_New := by kernel_rfl
theorem a_cluster_New_cb : callable Tryz.prog 8 = true := by kernel_rfl
def b_cluster_Cluster_Fuse : ACode :=
 .seq (gQ [gM 4 0, ⟨gO, .eqs 5 true 33 (.s 4) (.k (.raw (Value.pointer none)))⟩]) (.cond (.s 5) (.reg [gM 6 0, gM 7 1, gF 8 0 6, gF 9 3 8, gT 1 9 7]) .skip)
def a_cluster_Cluster_Fuse : AFn := ⟨2, 10, b_cluster_Cluster_Fuse, []⟩
theorem a_cluster_Cluster_Fuse_ok : fnAF Tryz.prog [2000036, 2000025, 2000037, 2000050, 2000043, 2000045, 2000028, 2000012, 2000013, 2000014, 2000018, 2000011, 2000008] Tryz.f25 = some a_cluster_Cluster_Fuse := by kernel_rfl
theorem a_cluster_Cluster_Fuse_cb : callable Tryz.prog 25 = true := by kernel_rfl
def b_cluster_Cluster_Down : ACode :=
 .seq (gQ [⟨gO, .mov 2 (.k (.bool false))⟩]) (.seq (gQ [gM 3 0, ⟨gO, .eqs 4 true 33 (.s 3) (.k (.raw (Value.pointer none)))⟩, gM 5 4, gN 5 true 6 0, ⟨some (5, true), .off 7 0 (.s 6)⟩, ⟨some (5, true), .off 8 4 (.s 7)⟩, ⟨some (5, true), .ld 9 1 false (.s 8)⟩, ⟨gO, .pick 10 (.s 5) (.s 9) (.k (.bool false))⟩, gM 2 10]) .ret)
def a_cluster_Cluster_Down : AFn := ⟨1, 11, b_cluster_Cluster_Down, [.tmp 2]⟩
theorem a_cluster_Cluster_Down_ok : fnAF Tryz.prog [2000036, 2000025, 2000037, 2000050, 2000043, 2000045, 2000028, 2000012, 2000013, 2000014, 2000018, 2000011, 2000008] Tryz.f50 = some a_cluster_Cluster_Down := by kernel_rfl
theorem a_cluster_Cluster_Down_cb : callable Tryz.prog 50 = true := by kernel_rfl
def b_cluster_Cluster_write : ACode :=
 .seq (gQ [gJ 2 0]) (.seq (.block 0 (.seq (gQ [gM 8 0, ⟨gO, .eqs 9 false 33 (.s 8) (.k (.raw (Value.pointer none)))⟩, gM 7 9]) (.cond (.s 7) (.seq (gQ [gJ 2 2]) .ret) (.seq (gQ [gM 11 0, gF 12 0 11, gF 13 4 12, gL 14 13, gM 15 14, gN 15 false 16 0, ⟨some (15, false), .off 17 0 (.s 16)⟩, ⟨some (15, false), .off 18 3 (.s 17)⟩, ⟨some (15, false), .ld 19 1 false (.s 18)⟩, ⟨some (15, false), .bin 20 .eql false (.s 19) (gI 0)⟩, ⟨gO, .pick 21 (.s 15) (.k (.bool true)) (.s 20)⟩, gM 10 21]) (.cond (.s 10) (.seq (gQ [gM 22 0, gF 23 0 22, gF 24 4 23, ⟨gO, .st 1 (.s 24) (.k (.bool true))⟩]) (.seq (gQ [gJ 2 31]) .ret)) (.seq (gQ [gM 26 0, gF 27 0 26, gF 28 3 27, gL 29 28, gU 30 .gtr 29 0, gM 25 30]) (.cond (.s 25) (.reg [gM 31 0, gF 32 0 31, gF 33 3 32, gL 34 33, gU 35 .sub 34 1, gF 36 0 31, gF 37 3 36, gT 1 37 35]) .skip))))))) (.seq (gQ [gM 38 0, gF 39 0 38, gF 40 2 39, gL 41 40, gC 42 79 [.s 41, gI 0], gM 3 42]) (.seq (gQ [⟨gO, .mov 4 (.k (.lst .nil 1 []))⟩]) (.seq (.seq (gQ [gM 43 0, gF 44 0 43, gF 45 2 44, gL 46 45, gH 47 false 46, gJ 48 0]) (.block 1 (.loop (.seq (gQ [gV 49 .lss 48 47]) (.seq (.cond (.s 49) .skip (.exit 1)) (.seq (.block 2 (.seq (gQ [gE 50 1 46 48, gL 51 50, gM 6 51]) (.seq (gQ [gM 52 6, gU 53 .gtr 52 0]) (.cond (.s 53) (.reg [gM 54 4, gM 55 6, gU 56 .sub 55 1, ⟨gO, .bsl 57 1 1 [.int .i64 0] [(0, 1, .s 56)]⟩, ⟨gO, .app 58 1 8 (.s 54) (.s 57)⟩, gM 4 58]) .skip)))) (.reg [gU 59 .add 48 1, gM 48 59]))))))) (.seq (gQ [gM 60 0, gM 61 4, gF 62 0 60, gF 63 2 62, gT 1 63 61]) (.seq (.seq (gQ [gM 64 3]) (.cond (.s 64) (.seq (gQ [gM 65 0, gF 66 0 65, gF 67 5 66, gL 68 67, gC 69 44 [.s 68, gI 4]]) (.seq (gQ [gJ 2 30]) .ret)) .skip)) (.seq (gQ [gJ 2 0]) .ret)))))))
def a_cluster_Cluster_write : AFn := ⟨1, 70, b_cluster_Cluster_write, [.tmp 2]⟩
theorem a_cluster_Cluster_write_ok : fnAF Tryz.prog [2000036, 2000025, 2000037, 2000050, 2000043, 2000045, 2000028, 2000012, 2000013, 2000014, 2000018, 2000011, 2000008] Tryz.f43 = some a_cluster_Cluster_write := by kernel_rfl
theorem a_cluster_Cluster_write_cb : callable Tryz.prog 43 = true := by kernel_rfl
def b_cluster_Cluster_put : ACode :=
 .seq (gQ [gP 4 1, gP 5 2]) (.seq (gQ [gM 6 0, gF 7 0 6, gF 8 1 7, gL 9 8, gU 10 .add 9 1, gF 11 0 6, gF 12 1 11, gT 1 12 10]) (.reg [gM 13 0, gF 14 0 13, gF 15 0 14, gL 16 15, gA 17 3 4, gA 18 6 5, gC 19 38 [.s 18], gM 20 0, gF 21 0 20, gF 22 1 21, gL 23 22, ⟨gO, .build 24 [.int .i64 0, .bool false, .int .i64 0, .str ⟨#[]⟩, .lst .nil 6 [], .lst .nil 7 [], .int .i64 0] [(0, 6, .s 19), (6, 1, .s 23)]⟩, ⟨gO, .mop (MO.set 68) none [.s 16, .s 17, .s 24]⟩]))
def a_cluster_Cluster_put : AFn := ⟨3, 25, b_cluster_Cluster_put, []⟩
theorem a_cluster_Cluster_put_ok : fnAF Tryz.prog [2000036, 2000025, 2000037, 2000050, 2000043, 2000045, 2000028, 2000012, 2000013, 2000014, 2000018, 2000011, 2000008] Tryz.f45 = some a_cluster_Cluster_put := by kernel_rfl
theorem a_cluster_Cluster_put_cb : callable Tryz.prog 45 = true := by kernel_rfl
def b_cluster_wrong : ACode :=
 .seq (gQ [gP 2 0, gP 3 1, gJ 4 0]) (.seq (.seq (gQ [gA 5 3 2, gC 6 77 [.s 5], ⟨gO, .un 7 .not (.s 6)⟩]) (.cond (.s 7) (.seq (gQ [gJ 4 26]) .ret) .skip)) (.seq (gQ [gA 8 6 3, gC 9 78 [.s 8], gM 4 9]) .ret))
def a_cluster_wrong : AFn := ⟨2, 10, b_cluster_wrong, [.tmp 4]⟩
theorem a_cluster_wrong_ok : fnAF Tryz.prog [2000036, 2000025, 2000037, 2000050, 2000043, 2000045, 2000028, 2000012, 2000013, 2000014, 2000018, 2000011, 2000008] Tryz.f42 = some a_cluster_wrong := by kernel_rfl
theorem a_cluster_wrong_cb : callable Tryz.prog 42 = true := by kernel_rfl
def b_cluster_Cluster_Delete : ACode :=
 .seq (gQ [gP 3 1, gJ 4 0]) (.seq (.seq (gQ [gM 8 0, ⟨gO, .calls (some 9) (.k (.fn 43 [])) [.s 8]⟩, gM 5 9]) (.seq (gQ [gM 10 5, gU 11 .neq 10 0]) (.cond (.s 11) (.seq (gQ [gM 12 5, gM 4 12]) .ret) .skip))) (.seq (.seq (.rega [gM 14 0, gF 15 0 14, gF 16 0 15, gL 17 16, gA 18 3 3, ⟨gO, .mop (MO.get 68 true) (some 19) [.s 17, .s 18]⟩, gM 13 19, gX 20 0 13, gX 21 1 13, ⟨gO, .alloc 6 [.int .i64 0, .bool false, .int .i64 0, .str ⟨#[]⟩, .lst .nil 6 [], .lst .nil 7 [], .int .i64 0]⟩, gT 7 6 20, gM 7 21] [[], [0], [1], [2], [], [3, 4], [5], [6], [6], [], [9, 7, 0, 1, 2, 3, 4, 5, 6, 7, 9], [8, 10, 0, 1, 2, 3, 4, 5, 6, 7, 8, 9, 10]]) (.seq (gQ [gM 22 7, ⟨gO, .un 23 .not (.s 22)⟩]) (.cond (.s 23) (.seq (gQ [gJ 4 3]) .ret) .skip))) (.seq (gQ [gM 24 0, gF 25 0 24, gF 26 5 25, gL 27 26, gC 28 44 [.s 27, gI 3]]) (.seq (gQ [gM 29 0, gF 30 0 29, gF 31 0 30, gL 32 31, gA 33 3 3, ⟨gO, .mop (MO.del 68 24 0) none [.s 32, .s 33]⟩]) (.seq (gQ [gJ 4 0]) .ret)))))
def a_cluster_Cluster_Delete : AFn := ⟨2, 34, b_cluster_Cluster_Delete, [.tmp 4]⟩
theorem a_cluster_Cluster_Delete_ok : fnAF Tryz.prog [2000036, 2000025, 2000037, 2000050, 2000043, 2000045, 2000028, 2000012, 2000013, 2000014, 2000018, 2000011, 2000008] Tryz.f14 = some a_cluster_Cluster_Delete := by kernel_rfl
theorem a_cluster_Cluster_Delete_cb : callable Tryz.prog 14 = true := by kernel_rfl
def b_cluster_Cluster_Edit : ACode :=
 .seq (gQ [gP 4 1, gP 5 2, gJ 6 0]) (.seq (.block 0 (.seq (gQ [gM 12 0, ⟨gO, .eqs 13 false 33 (.s 12) (.k (.raw (Value.pointer none)))⟩, gM 11 13]) (.cond (.s 11) (.seq (gQ [gJ 6 2]) .ret) (.seq (gQ [gA 15 3 4, gA 16 6 5, gC 17 42 [.s 15, .s 16], gU 18 .neq 17 0, gM 14 18]) (.cond (.s 14) (.seq (gQ [gA 19 3 4, gA 20 6 5, gC 21 42 [.s 19, .s 20], gM 6 21]) .ret) (.seq (gQ [gF 23 0 5, gL 24 23, gU 25 .eql 24 0, gM 22 25]) (.cond (.s 22) (.reg [gM 26 0, gF 27 0 26, gF 28 0 27, gL 29 28, gA 30 3 4, ⟨gO, .mop (MO.del 68 24 0) none [.s 29, .s 30]⟩]) (.reg [gM 7 0, gA 8 3 4, gA 9 6 5, ⟨gO, .calls (some 10) (.k (.fn 45 [])) [.s 7, .s 8, .s 9]⟩])))))))) (.seq (gQ [gJ 6 0]) .ret))
def a_cluster_Cluster_Edit : AFn := ⟨3, 31, b_cluster_Cluster_Edit, [.tmp 6]⟩
theorem a_cluster_Cluster_Edit_ok : fnAF Tryz.prog [2000036, 2000025, 2000037, 2000050, 2000043, 2000045, 2000028, 2000012, 2000013, 2000014, 2000018, 2000011, 2000008] Tryz.f18 = some a_cluster_Cluster_Edit := by kernel_rfl
theorem a_cluster_Cluster_Edit_cb : callable Tryz.prog 18 = true := by kernel_rfl
def b_meter_Meter_Add : ACode :=
 .seq (gQ [gJ 4 0]) (.seq (.seq (gQ [gM 5 0, ⟨gO, .eqs 6 false 67 (.s 5) (.k (.raw (Value.pointer none)))⟩, gM 7 6, gN 7 false 8 1, ⟨some (7, false), .bin 9 .lss false (.s 8) (gI 0)⟩, ⟨gO, .pick 10 (.s 7) (.k (.bool true)) (.s 9)⟩, gM 11 10, gN 11 false 12 1, ⟨some (11, false), .bin 13 .geq false (.s 12) (gI 5)⟩, ⟨gO, .pick 14 (.s 11) (.k (.bool true)) (.s 13)⟩]) (.cond (.s 14) (.seq (gQ [gJ 4 0]) .ret) .skip)) (.seq (gQ [gM 15 0, gM 16 1, gF 17 0 15, gF 18 0 17, ⟨gO, .offi 19 5 1 (.s 18) (.s 16)⟩, gC 20 80 [.s 19, gI 1], gM 4 20]) .ret))
def a_meter_Meter_Add : AFn := ⟨2, 21, b_meter_Meter_Add, [.tmp 4]⟩
theorem a_meter_Meter_Add_ok : fnAF Tryz.prog [2000036, 2000025, 2000037, 2000050, 2000043, 2000045, 2000028, 2000012, 2000013, 2000014, 2000018, 2000011, 2000008] Tryz.f44 = some a_meter_Meter_Add := by kernel_rfl
theorem a_meter_Meter_Add_cb : callable Tryz.prog 44 = true := by kernel_rfl
def b_slices_Contains_int : ACode :=
 .seq (gQ [⟨gO, .mov 4 (.k (.bool false))⟩]) (.seq (gQ [gM 5 0, gM 6 1, gC 7 124 [.s 5, .s 6], gU 8 .geq 7 0, gM 4 8]) .ret)
def a_slices_Contains_int : AFn := ⟨2, 9, b_slices_Contains_int, [.tmp 4]⟩
theorem a_slices_Contains_int_ok : fnAF Tryz.prog [2000036, 2000025, 2000037, 2000050, 2000043, 2000045, 2000028, 2000012, 2000013, 2000014, 2000018, 2000011, 2000008] Tryz.f79 = some a_slices_Contains_int := by kernel_rfl
theorem a_slices_Contains_int_cb : callable Tryz.prog 79 = true := by kernel_rfl
def b_slices_Index_int : ACode :=
 .seq (gQ [gJ 4 0]) (.seq (.seq (gQ [gM 6 0, gH 7 false 6, gJ 8 0]) (.block 0 (.loop (.seq (gQ [gV 9 .lss 8 7]) (.seq (.cond (.s 9) .skip (.exit 0)) (.seq (.block 1 (.seq (gQ [gM 10 8, gM 5 10]) (.seq (gQ [gM 11 1, gM 12 0, gM 13 5, gE 14 1 12 13, gL 15 14, gV 16 .eql 11 15]) (.cond (.s 16) (.seq (gQ [gM 17 5, gM 4 17]) .ret) .skip)))) (.reg [gU 18 .add 8 1, gM 8 18]))))))) (.seq (gQ [⟨gO, .mov 4 (.k (.int .i64 (-1)))⟩]) .ret))
def a_slices_Index_int : AFn := ⟨2, 19, b_slices_Index_int, [.tmp 4]⟩
theorem a_slices_Index_int_ok : fnAF Tryz.prog [2000036, 2000025, 2000037, 2000050, 2000043, 2000045, 2000028, 2000012, 2000013, 2000014, 2000018, 2000011, 2000008] Tryz.f124 = some a_slices_Index_int := by kernel_rfl
theorem a_slices_Index_int_cb : callable Tryz.prog 124 = true := by kernel_rfl
end Go.Proofs.YtgidajjjpeboeaaGreatDoor
namespace Go.Proofs.YtgidajjjpeboeaaGreatDoor
open Go.RowKit
theorem relOne {σ : Sg} {v : Value} {a : AV} (h : RelP σ v a) : RelPs σ [v] [a] := ⟨rfl, fun j u x hu hx => by
 rcases j with _ | j <;> simp at hu hx
 subst hu hx
 exact h⟩
theorem ac_bool {f : FuncId} {args : List AV} {b : Bool} (h : AC Tryz.prog f args (.bool b)) {σ : Sg} {w : World} {vs : List Value} (hh : Holds σ w) (hr : RelPs σ vs args) (hg : GW w) : Calls Tryz.prog f vs.toArray w fun e w' => e = .returned (.bool b) ∧ Below w.heap.size w w' := by
 refine (h.run σ w vs hh hr hg).mono ?_
 rintro e w' ⟨σ', v, rfl, _, _, hb, hr⟩
 have hr : Rel1 σ' v (.bool b) := hr
 cases hr
 exact ⟨rfl, hb⟩
theorem wpList_index_arr3 {P : Program} {ops : Array Oper} {rest : List Oper} {tmps : Array Value} {df : List Deferred} {w : World} {Q : Exit → Act → World → Prop} {d : Option Tmp} {ty0 : TypeId} {ps : String} {af : Array Edge}
  (p q : Tmp) (ty : TypeId) (cs : Array Value) (i u : Value) (hp : tmps.getD p undef = .agg cs) (hq : tmps.getD q undef = i) (hrun : (Instr.index ty (.agg cs) i).run P w = .ok u w)
  (h : wpList P ops Q rest (({ tmps := tmps, defers := df } : Act).put d u) w) :
  wpList P ops Q ({ dst := d, op := .index ty (.tmp p) (.tmp q), type := ty0, pos := ps, after := af, guard := none } :: rest) { tmps := tmps, defers := df } w := by
 refine wpList_plain rfl fun K hK => ?_
 have e1 : ({ tmps := tmps, defers := df } : Act).eval (.tmp p) = .agg cs := hp
 have e2 : ({ tmps := tmps, defers := df } : Act).eval (.tmp q) = i := hq
 unfold Oper.wp execOp
 simp only [e1, e2, Sem.run_bind, Sem.run_pure, Result.andThen_ok, hrun]
 exact hK _ _ h
theorem run_idx3 (cs : Array Value) (j : Nat) (x : ByteArray) (hj : j < 3) (hu : cs[j]? = some (.string x)) (w : World) : (Instr.index 180 (.agg cs) (.int .i64 j)).run Tryz.prog w = .ok (.string x) w := by
 have h1 : ((j : Int) < 3) := by omega
 have h2 : ¬ 3 ≤ j := by omega
 simp [Instr.index, asIntOf, run_underlying Tryz.underlying180, h1, part, Tryz.isAgg9, Tryz.sizeOf9, hu, h2]
set_option maxHeartbeats 2000000 in
set_option maxRecDepth 100000 in
theorem right_any (a b c : ByteArray) (ha : a.size ≤ 140737488355328) (hb : b.size ≤ 140737488355328) (hc : c.size ≤ 140737488355328) (w : World) (hg : GW w) :
  Calls Tryz.prog 77 #[.agg #[.string a, .string b, .string c]] w fun e w' => e = .returned (.bool (wordOkB a && wordOkB b && wordOkB c)) ∧ Below w.heap.size w w' := by
 obtain ⟨R, hR⟩ : ∃ R, (wordOkB a && wordOkB b && wordOkB c) = R := ⟨_, rfl⟩
 rw [hR]
 have hB : ∀ x : ByteArray, x.size ≤ 140737488355328 → ∀ w', Below w.heap.size w w' → Calls Tryz.prog 95 #[.string x] w' fun e w2 => e = .returned (.bool (bareB x)) ∧ Below w'.heap.size w' w2 := fun x hx w' h => ac_bool (σ := fun _ _ => none) (vs := [.string x]) (bare_a x hx) (fun _ _ _ h => by cases h) (relOne (.str _)) (hg.below h)
 have hC : ∀ x : ByteArray, ∀ w', Below w.heap.size w w' → Calls Tryz.prog 96 #[.string x, .string ⟨#[47]⟩] w' fun e w2 => e = .returned (.bool (!noSl x)) ∧ Below w'.heap.size w' w2 := fun x w' h => ac_bool (σ := fun _ _ => none) (vs := [.string x, .string ⟨#[47]⟩]) (contains47_a x) (fun _ _ _ h => by cases h) ⟨rfl, fun j v u hv hu => by
  rcases j with _ | _ | j <;> simp at hv hu <;> (subst hv hu; exact Rel1.str _)⟩ (hg.below h)
 have hall : ∀ (j : Nat) (x : ByteArray), [a, b, c][j]? = some x → x.size ≤ 140737488355328 := fun j x h => by
  rcases j with _ | _ | _ | j <;> simp at h <;> subst h <;> assumption
 have hcell : ∀ (j : Nat) (x : ByteArray), [a, b, c][j]? = some x → (#[.string a, .string b, .string c] : Array Value)[j]? = some (.string x) := fun j x h => by
  rcases j with _ | _ | _ | j <;> simp at h <;> subst h <;> rfl
 have hbad : ∀ (j : Nat) (x : ByteArray), [a, b, c][j]? = some x → wordOkB x = false → R = false := fun j x h hx => by
  rw [← hR]
  rcases j with _ | _ | _ | j <;> simp at h <;> subst h <;> simp [hx]
 have hgood : (∀ (j : Nat) (x : ByteArray), j < 3 → [a, b, c][j]? = some x → wordOkB x = true) → R = true := fun h => by
  rw [← hR, h 0 a (by omega) rfl, h 1 b (by omega) rfl, h 2 c (by omega) rfl]; rfl
 have HB := Lib.hid hB
 have HC := Lib.hid hC
 have H1 := Lib.hid hall
 have H2 := Lib.hid hcell
 have H3 := Lib.hid hbad
 have H4 := Lib.hid hgood
 clear hB hC hall hcell hbad hgood hg hR
 go_enter Tryz.func77, Tryz.ntmps77
 go_wp2_with fail
 go_loopw [12] (fun i wr => ∃ k : Nat, k ≤ 3 ∧ i = .int .i64 k ∧ Below w.heap.size w wr ∧ Hid (∀ (j : Nat) (x : ByteArray), j < k → [a, b, c][j]? = some x → wordOkB x = true)) (fun i _ => 3 - (intOf i).toNat)
 case atStart => exact ⟨0, by omega, rfl, (Below.refl _ _).alloc (Nat.le_refl _) _, Lib.hid fun j x h => by omega⟩
 case round =>
  obtain ⟨k, hk, rfl, hb0, hT⟩ := hrel
  by_cases hlt : k < 3
  ·obtain ⟨x, hx⟩ : ∃ x, [a, b, c][k]? = some x := ⟨_, List.getElem?_eq_getElem hlt⟩
   have hxz := H1.out k x hx
   have hcx := H2.out k x hx
   have hcB := HB.out x hxz wr hb0
   have hbad : wordOkB x = false → Hid (R = false) := fun h => Lib.hid (H3.out k x hx h)
   have hgo : wordOkB x = true → Hid (∀ (j : Nat) (x : ByteArray), j < k + 1 → [a, b, c][j]? = some x → wordOkB x = true) := fun h => Lib.hid fun j y hj hy => by
    by_cases e : j = k
    ·subst e; rw [hx] at hy; cases hy; exact h
    ·exact hT.out j y (by omega) hy
   unfold wordOkB at hbad hgo
   clear hx hT
   cases h1 : bareB x with
   | false =>
    rw [h1] at hcB hbad
    have HN := hbad (by simp)
    clear hbad hgo
    go_wp2_with (first | refine wpList_index_arr3 11 12 180 _ _ (.string x) rfl rfl (run_idx3 _ k x hlt hcx _) ?_ | (go_at_call 95; refine hcB.mono ?_; rintro e w1 ⟨rfl, b1⟩))
    go_ret
    exact ⟨by rw [HN.out]; rfl, hb0.trans (b1.mono hb0.size)⟩
   | true =>
    rw [h1] at hcB hbad hgo
    have hcC : ∀ w1, Below wr.heap.size wr w1 → Calls Tryz.prog 96 #[.string x, .string ⟨#[47]⟩] w1 fun e w2 => e = .returned (.bool (!noSl x)) ∧ Below w1.heap.size w1 w2 := fun w1 b1 => HC.out x w1 (hb0.trans (b1.mono hb0.size))
    cases h2 : noSl x with
    | false =>
     rw [h2] at hcC hbad
     have HN := hbad (by simp)
     clear hbad hgo
     go_wp2_with (first | refine wpList_index_arr3 11 12 180 _ _ (.string x) rfl rfl (run_idx3 _ k x hlt hcx _) ?_ | (go_at_call 95; refine hcB.mono ?_; rintro e w1 ⟨rfl, b1⟩) | (go_at_call 96; refine (hcC w1 b1).mono ?_; rintro e w2 ⟨rfl, b2⟩))
     go_ret
     exact ⟨by rw [HN.out]; rfl, (hb0.trans (b1.mono hb0.size)).trans (b2.mono (Nat.le_trans hb0.size b1.size))⟩
    | true =>
     rw [h2] at hcC hbad hgo
     by_cases hz : x.size ≤ 64
     ·have HN := hgo (by simpa using hz)
      have hz' : ¬ (64 : Int) < x.size := by omega
      clear hbad hgo
      go_wp2_with (first | refine wpList_index_arr3 11 12 180 _ _ (.string x) rfl rfl (run_idx3 _ k x hlt hcx _) ?_ | (go_at_call 95; refine hcB.mono ?_; rintro e w1 ⟨rfl, b1⟩) | (go_at_call 96; refine (hcC w1 b1).mono ?_; rintro e w2 ⟨rfl, b2⟩))
      go_wp2
      go_roundw
      case rel => exact ⟨k + 1, by omega, by go_num, (hb0.trans (b1.mono hb0.size)).trans (b2.mono (Nat.le_trans hb0.size b1.size)), HN⟩
      case measure => simp [intOf]; omega
     ·have HN := hbad (by simpa using hz)
      have hz' : (64 : Int) < x.size := by omega
      clear hbad hgo
      go_wp2_with (first | refine wpList_index_arr3 11 12 180 _ _ (.string x) rfl rfl (run_idx3 _ k x hlt hcx _) ?_ | (go_at_call 95; refine hcB.mono ?_; rintro e w1 ⟨rfl, b1⟩) | (go_at_call 96; refine (hcC w1 b1).mono ?_; rintro e w2 ⟨rfl, b2⟩))
      go_ret
      exact ⟨by rw [HN.out]; rfl, (hb0.trans (b1.mono hb0.size)).trans (b2.mono (Nat.le_trans hb0.size b1.size))⟩
  ·have hk3 : k = 3 := by omega
   subst hk3
   have HN := Lib.hid (H4.out hT.out)
   clear hT
   go_wp2_with fail
   go_ret
   exact ⟨by rw [HN.out]; rfl, hb0⟩
theorem right_a (a b c : ByteArray) (ha : a.size ≤ 140737488355328) (hb : b.size ≤ 140737488355328) (hc : c.size ≤ 140737488355328) : AC Tryz.prog 77 [.agg [.str a, .str b, .str c]] (.bool (wordOkB a && wordOkB b && wordOkB c)) := by
 refine ⟨by kernel_rfl, fun σ w vs hh hr hg => ?_⟩
 obtain ⟨v, rfl⟩ : ∃ v, vs = [v] := List.length_eq_one_iff.1 hr.1
 obtain ⟨us, rfl, h1⟩ := (hr.2 0 v _ rfl rfl : RelP σ v (.agg [.str a, .str b, .str c]))
 obtain ⟨x, y, z, rfl⟩ : ∃ x y z, us = [x, y, z] := by
  have := h1.1
  rcases us with _ | ⟨x, _ | ⟨y, _ | ⟨z, _ | ⟨u, l⟩⟩⟩⟩ <;> simp at this
  exact ⟨x, y, z, rfl⟩
 cases h1.head
 cases h1.tail.head
 cases h1.tail.tail.head
 refine (right_any a b c ha hb hc w hg).mono ?_
 rintro e w' ⟨rfl, hB⟩
 exact ⟨σ, _, rfl, Ext.refl _ _, hh.on hB, hB, .bool _⟩
end Go.Proofs.YtgidajjjpeboeaaGreatDoor
namespace Go.Proofs.YtgidajjjpeboeaaGreatDoor
set_option maxRecDepth 100000
def b_tree_Check : ACode :=
 .seq (gQ [gP 1 0, gJ 2 0]) (.seq (.block 0 (.seq (gQ [gA 4 6 1, gC 5 121 [.s 4], gU 6 .gtr 5 16, gM 3 6]) (.cond (.s 3) (.seq (gQ [gJ 2 5]) .ret) (.seq (gQ [gA 8 6 1, gC 9 122 [.s 8], gU 10 .gtr 9 4096, gM 7 10]) (.cond (.s 7) (.seq (gQ [gJ 2 6]) .ret) .skip))))) (.seq (gQ [gA 11 6 1, gC 12 123 [.s 11], gM 2 12]) .ret))
def a_tree_Check : AFn := ⟨1, 13, b_tree_Check, [.tmp 2]⟩
theorem a_tree_Check_ok : fnAF Tryz.prog [] Tryz.f78 = some a_tree_Check := by kernel_rfl
theorem a_tree_Check_cb : callable Tryz.prog 78 = true := by kernel_rfl
def b_tree_Size : ACode :=
 .seq (gQ [gP 1 0, gJ 2 0]) (.seq (gQ [gJ 3 1]) (.seq (.seq (gQ [gF 8 4 1, gL 9 8, gH 10 false 9, gJ 11 0]) (.block 0 (.loop (.seq (gQ [gV 12 .lss 11 10]) (.seq (.cond (.s 12) .skip (.exit 0)) (.seq (.block 1 (.seq (gQ [gE 13 6 9 11, gA 14 6 13, ⟨gO, .alloc 5 gZ⟩, gT 6 5 14]) (.reg [gM 15 3, gA 16 6 5, gC 17 122 [.s 16], gV 18 .add 15 17, gM 3 18]))) (.reg [gU 19 .add 11 1, gM 11 19]))))))) (.seq (.seq (gQ [gF 20 5 1, gL 21 20, gH 22 false 21, gJ 23 0]) (.block 2 (.loop (.seq (gQ [gV 24 .lss 23 22]) (.seq (.cond (.s 24) .skip (.exit 2)) (.seq (.block 3 (.seq (gQ [gE 25 7 21 23, gA 26 7 25, ⟨gO, .alloc 7 [.str ⟨#[]⟩, .int .i64 0, .bool false, .int .i64 0, .str ⟨#[]⟩, .lst .nil 6 [], .lst .nil 7 []]⟩, gT 7 7 26]) (.reg [gM 27 3, gF 28 1 7, gA 29 6 28, gC 30 122 [.s 29], gV 31 .add 27 30, gM 3 31]))) (.reg [gU 32 .add 23 1, gM 23 32]))))))) (.seq (gQ [gM 33 3, gM 2 33]) .ret))))
def a_tree_Size : AFn := ⟨1, 34, b_tree_Size, [.tmp 2]⟩
theorem a_tree_Size_ok : fnAF Tryz.prog [] Tryz.f122 = some a_tree_Size := by kernel_rfl
theorem a_tree_Size_cb : callable Tryz.prog 122 = true := by kernel_rfl
def b_tree_Depth : ACode :=
 .seq (gQ [gP 1 0, gJ 2 0]) (.seq (gQ [gJ 3 0]) (.seq (.seq (gQ [gF 8 4 1, gL 9 8, gH 10 false 9, gJ 11 0]) (.block 0 (.loop (.seq (gQ [gV 12 .lss 11 10]) (.seq (.cond (.s 12) .skip (.exit 0)) (.seq (.block 1 (.seq (gQ [gE 13 6 9 11, gA 14 6 13, ⟨gO, .alloc 5 gZ⟩, gT 6 5 14]) (.reg [gM 15 3, gA 16 6 5, gC 17 121 [.s 16], ⟨gO, .mx 18 (.s 15) (.s 17)⟩, gM 3 18]))) (.reg [gU 19 .add 11 1, gM 11 19]))))))) (.seq (.seq (gQ [gF 20 5 1, gL 21 20, gH 22 false 21, gJ 23 0]) (.block 2 (.loop (.seq (gQ [gV 24 .lss 23 22]) (.seq (.cond (.s 24) .skip (.exit 2)) (.seq (.block 3 (.seq (gQ [gE 25 7 21 23, gA 26 7 25, ⟨gO, .alloc 7 [.str ⟨#[]⟩, .int .i64 0, .bool false, .int .i64 0, .str ⟨#[]⟩, .lst .nil 6 [], .lst .nil 7 []]⟩, gT 7 7 26]) (.reg [gM 27 3, gF 28 1 7, gA 29 6 28, gC 30 121 [.s 29], ⟨gO, .mx 31 (.s 27) (.s 30)⟩, gM 3 31]))) (.reg [gU 32 .add 23 1, gM 23 32]))))))) (.seq (gQ [gM 33 3, gU 34 .add 33 1, gM 2 34]) .ret))))
def a_tree_Depth : AFn := ⟨1, 35, b_tree_Depth, [.tmp 2]⟩
theorem a_tree_Depth_ok : fnAF Tryz.prog [] Tryz.f121 = some a_tree_Depth := by kernel_rfl
theorem a_tree_Depth_cb : callable Tryz.prog 121 = true := by kernel_rfl
def b_tree_parts : ACode :=
 .seq (gQ [gP 1 0, gJ 2 0]) (.seq (.block 0 (.seq (gQ [gA 10 6 1, gC 11 174 [.s 10], ⟨gO, .un 12 .not (.s 11)⟩, gM 9 12]) (.cond (.s 9) (.seq (gQ [gJ 2 8]) .ret) (.seq (gQ [gF 14 3 1, gL 15 14, gC 16 135 [.s 15], ⟨gO, .un 17 .not (.s 16)⟩, gM 13 17]) (.cond (.s 13) (.seq (gQ [gJ 2 10]) .ret) .skip))))) (.seq (.seq (gQ [gF 18 4 1, gL 19 18, gH 20 false 19, gJ 21 0]) (.block 1 (.loop (.seq (gQ [gV 22 .lss 21 20]) (.seq (.cond (.s 22) .skip (.exit 1)) (.seq (.block 2 (.seq (gQ [gE 23 6 19 21, gA 24 6 23, ⟨gO, .alloc 4 gZ⟩, gT 6 4 24]) (.seq (gQ [gA 25 6 4, gC 26 123 [.s 25], gM 5 26]) (.seq (gQ [gM 27 5, gU 28 .neq 27 0]) (.cond (.s 28) (.seq (gQ [gM 29 5, gM 2 29]) .ret) .skip))))) (.reg [gU 30 .add 21 1, gM 21 30]))))))) (.seq (.seq (gQ [gF 31 5 1, gL 32 31, gH 33 false 32, gJ 34 0]) (.block 3 (.loop (.seq (gQ [gV 35 .lss 34 33]) (.seq (.cond (.s 35) .skip (.exit 3)) (.seq (.block 4 (.seq (gQ [gM 36 34, gE 37 7 32 34, gA 38 7 37, ⟨gO, .alloc 7 [.str ⟨#[]⟩, .int .i64 0, .bool false, .int .i64 0, .str ⟨#[]⟩, .lst .nil 6 [], .lst .nil 7 []]⟩, gM 6 36, gT 7 7 38]) (.seq (.block 5 (.seq (gQ [gF 40 0 7, gL 41 40, gC 42 175 [.s 41], ⟨gO, .un 43 .not (.s 42)⟩, gM 39 43]) (.cond (.s 39) (.seq (gQ [gJ 2 7]) .ret) (.seq (gQ [gM 45 6, gU 46 .gtr 45 0, gM 47 46, ⟨some (47, true), .off 48 5 (.s 1)⟩, ⟨some (47, true), .ld 49 1 false (.s 48)⟩, gN 47 true 50 6, ⟨some (47, true), .bin 51 .sub false (.s 50) (gI 1)⟩, ⟨some (47, true), .idx 52 7 (.s 49) (.s 51)⟩, ⟨some (47, true), .off 53 0 (.s 52)⟩, ⟨some (47, true), .ld 54 1 false (.s 53)⟩, ⟨some (47, true), .off 55 0 (.s 7)⟩, ⟨some (47, true), .ld 56 1 false (.s 55)⟩, ⟨some (47, true), .bin 57 .geq false (.s 54) (.s 56)⟩, ⟨gO, .pick 58 (.s 47) (.s 57) (.k (.bool false))⟩, gM 44 58]) (.cond (.s 44) (.seq (gQ [gJ 2 13]) .ret) .skip))))) (.seq (gQ [gF 59 1 7, gA 60 6 59, gC 61 123 [.s 60], gM 8 61]) (.seq (gQ [gM 62 8, gU 63 .neq 62 0]) (.cond (.s 63) (.seq (gQ [gM 64 8, gM 2 64]) .ret) .skip)))))) (.reg [gU 65 .add 34 1, gM 34 65]))))))) (.seq (gQ [gJ 2 0]) .ret))))
def a_tree_parts : AFn := ⟨1, 66, b_tree_parts, [.tmp 2]⟩
theorem a_tree_parts_ok : fnAF Tryz.prog [] Tryz.f123 = some a_tree_parts := by kernel_rfl
theorem a_tree_parts_cb : callable Tryz.prog 123 = true := by kernel_rfl
def b_tree_Key : ACode :=
 .seq (gQ [⟨gO, .mov 2 (.k (.bool false))⟩]) (.seq (gQ [gM 3 0, ⟨gO, gB 4 .neq (.s 3) (gS ⟨#[]⟩)⟩, gM 5 4, gN 5 true 6 0, ⟨some (5, true), .len 7 true (.s 6)⟩, ⟨some (5, true), .bin 8 .leq false (.s 7) (gI 256)⟩, ⟨gO, .pick 9 (.s 5) (.s 8) (.k (.bool false))⟩, gM 10 9, gN 10 true 11 0, ⟨some (10, true), .call (some 12) (.k (.fn 135 [])) [.s 11]⟩, ⟨gO, .pick 13 (.s 10) (.s 12) (.k (.bool false))⟩, gM 14 13, gN 14 true 15 0, ⟨some (14, true), .call (some 16) (.k (.fn 96 [])) [.s 15, gS ⟨#[10]⟩]⟩, ⟨some (14, true), .un 17 .not (.s 16)⟩, ⟨gO, .pick 18 (.s 14) (.s 17) (.k (.bool false))⟩, gM 19 18, gN 19 true 20 0, ⟨some (19, true), .call (some 21) (.k (.fn 96 [])) [.s 20, gS ⟨#[9]⟩]⟩, ⟨some (19, true), .un 22 .not (.s 21)⟩, ⟨gO, .pick 23 (.s 19) (.s 22) (.k (.bool false))⟩, gM 2 23]) .ret)
def a_tree_Key : AFn := ⟨1, 24, b_tree_Key, [.tmp 2]⟩
theorem a_tree_Key_ok : fnAF Tryz.prog [] Tryz.f175 = some a_tree_Key := by kernel_rfl
theorem a_tree_Key_cb : callable Tryz.prog 175 = true := by kernel_rfl
end Go.Proofs.YtgidajjjpeboeaaGreatDoor
