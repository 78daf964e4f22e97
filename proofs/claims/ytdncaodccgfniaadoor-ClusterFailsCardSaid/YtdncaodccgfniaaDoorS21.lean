/-
  The texts that the claim wants, one behind the other: part 21.
-/
import Derived.Test.YtdncaodccgfniaaDoorS20
import Derived.Test.YtdncaodccgfniaaDoorChecked
import Derived.KernelRfl
set_option linter.unusedSimpArgs false
set_option linter.unusedVariables false
namespace Go.Proofs.YtdncaodccgfniaaDoor
open Go.RowKit Go.Maps Go.MapKept Go.ChangeMaps
abbrev cluFA (c m : Nat) (rows : List MRow) (last fuse : Int) (down : Bool) : List (Nat × List AV) := [(c, [.np m 0, .int .i64 last, .lst .nil 1 [], .int .i64 fuse, .bool down, npC]), (m, [mcA rows])]
abbrev cluFB (c m q : Nat) (rows : List MRow) (last fuse : Int) (down : Bool) (l : List Int) (i : Nat × Nat) : List (Nat × List AV) := [(c, [.np m 0, .int .i64 last, .sli q 1 l.length i.1, .int .i64 fuse, .bool down, npC]), (m, [mcA rows]), (q, (rowsJ l).flatten ++ List.replicate i.2 AV.top)]
def cluFI (l : List Int) (i : Nat × Nat) : Prop := l.length ≤ i.1 ∧ ((rowsJ l).flatten ++ List.replicate i.2 AV.top).length = i.1 * 1
theorem map_rowsJ {g : AV → AV} (h1 : ∀ n, g (.int .i64 n) = .int .i64 n) (h2 : g .top = .top) (l : List Int) (m : Nat) : ((rowsJ l).flatten ++ List.replicate m AV.top).map g = (rowsJ l).flatten ++ List.replicate m AV.top := by
 rw [List.map_append, List.map_replicate, h2]
 congr 1
 induction l with
 | nil => rfl
 | cons n l ih =>
  show ([AV.int .i64 n] ++ (rowsJ l).flatten).map g = [AV.int .i64 n] ++ (rowsJ l).flatten
  rw [List.map_append, ih]
  show [g (.int .i64 n)] ++ _ = _
  rw [h1]
theorem told_rowsJ (l : List Int) (m : Nat) : ((rowsJ l).flatten ++ List.replicate m AV.top).map AV.told = (rowsJ l).flatten ++ List.replicate m AV.top := map_rowsJ (fun _ => rfl) rfl l m
theorem ren_rowsJ (ρ : Nat → Nat) (l : List Int) (m : Nat) : ((rowsJ l).flatten ++ List.replicate m AV.top).map (AV.ren ρ) = (rowsJ l).flatten ++ List.replicate m AV.top := map_rowsJ (fun _ => rfl) rfl l m
theorem all_rowsJ {g : AV → Bool} (h1 : ∀ n, g (.int .i64 n) = true) (h2 : g .top = true) (l : List Int) (m : Nat) : ((rowsJ l).flatten ++ List.replicate m AV.top).all g = true := by
 rw [List.all_eq_true]
 intro c hc
 rcases List.mem_append.1 hc with hc | hc
 ·obtain ⟨r, hr, hcr⟩ := List.mem_flatten.1 hc
  obtain ⟨n, _, rfl⟩ := List.mem_map.1 hr
  rw [List.mem_singleton.1 hcr]
  exact h1 n
 ·rw [(List.mem_replicate.1 hc).2]
  exact h2
theorem rowsJ_ok (l : List Int) : RowsOk 1 (rowsJ l) := ⟨by omega, fun c hc => by
 obtain ⟨o, _, rfl⟩ := List.mem_map.1 hc
 exact ⟨rfl, rfl⟩⟩
theorem okIn_B (rows : List MRow) (last fuse : Int) (down : Bool) (l : List Int) (i : Nat × Nat) (n : Int) : okInS (cluFB 2000000 2900001 2000001 rows last fuse down l i) [.np 2000000 0, .lst .any 1 (rowsJ [n])] = true := by
 unfold okInS
 show (true && (true && (((rowsJ l).flatten ++ List.replicate i.2 AV.top).all AV.okIn && true)) && true) = true
 rw [all_rowsJ (fun _ => rfl) rfl]
 rfl
theorem fail_nil (rows : List MRow) (last fuse : Int) (down : Bool) (n : Int) : MSX Tryd.prog 7 (cluFA 2000000 2900001 rows last fuse down) [.np 2000000 0, .lst .any 1 (rowsJ [n])] (cluFI [n]) (fun i => cluFB 2000000 2900001 1000001 rows last fuse down [n] i) (fun _ => .tup []) := by
 refine MSX.enter Tryd.func7 a_cluster_Cluster_FailX_ok a_cluster_Cluster_FailX_cb (by rfl) (by rfl) fun E hE => ?_
 show AK _ _ _ [.c b_cluster_Cluster_FailX] _ _
 rw [b_cluster_Cluster_FailX]
 refine kS ?_
 refine kP [] ?_ ?_
 ·((repeat' apply And.intro) <;> first | exact kD | (intro hgd; refine ⟨?_, kG⟩; (repeat' apply And.intro) <;> first | exact kD | skip) | skip)
  ·exact fun g o => someClu true g o
 refine kCt ?_
 refine AK.regs ?_
 refine SK.run 7 [.m [] []] ?_ ?_
 ·((repeat' apply And.intro) <;> first | exact kD | (intro hgd; refine ⟨?_, kG⟩; (repeat' apply And.intro) <;> first | exact kD | skip) | skip)
  ·show 0 < 1; omega
  ·show 1 * 8 ≤ 140737488355328; omega
  ·show 1 ≤ 140737488355328; omega
 refine SK.open 12 12 1000001 rfl (by omega) rfl fun cap m h1 h2 => ?_
 refine SK.all [] ?_ ?_
 ·((repeat' apply And.intro) <;> first | exact kD | (intro hgd; refine ⟨?_, kG⟩; (repeat' apply And.intro) <;> first | exact kD | skip) | skip)
 show RQX _ _ _ _ .normal _ _
 exact ⟨(cap, m), ⟨h1, h2⟩, ⟨_, rfl, rfl⟩, ⟨_, rfl, rfl⟩, ⟨_, rfl, rfl⟩, ⟨_, rfl, told_rowsJ [n] m⟩, trivial⟩
theorem fail_more (rows : List MRow) (last fuse : Int) (down : Bool) (l : List Int) (hl : l.length ≤ 1000000) (i : Nat × Nat) (hi : cluFI l i) (n : Int) : MSX Tryd.prog 7 (cluFB 2000000 2900001 2000001 rows last fuse down l i) [.np 2000000 0, .lst .any 1 (rowsJ [n])] (cluFI (l ++ [n])) (fun j => cluFB 2000000 2900001 1000001 rows last fuse down (l ++ [n]) j) (fun _ => .tup []) := by
 obtain ⟨cap0, m0⟩ := i
 obtain ⟨hi1, hi2⟩ := hi
 dsimp only at hi1 hi2
 have hlen : (rowsJ l ++ rowsJ [n]).length = l.length + 1 := by rw [List.length_append, rowsJ_len]; rfl
 have hsn : rowsJ l ++ rowsJ [n] = rowsJ (l ++ [n]) := (rowsJ_snoc l n).symm
 refine MSX.enter Tryd.func7 a_cluster_Cluster_FailX_ok a_cluster_Cluster_FailX_cb (by rfl) (okIn_B rows last fuse down l (cap0, m0) n) fun E hE => ?_
 show AK _ _ _ [.c b_cluster_Cluster_FailX] _ _
 rw [b_cluster_Cluster_FailX]
 refine kS ?_
 refine kP [] ?_ ?_
 ·((repeat' apply And.intro) <;> first | exact kD | (intro hgd; refine ⟨?_, kG⟩; (repeat' apply And.intro) <;> first | exact kD | skip) | skip)
  ·exact fun g o => someClu true g o
 refine kCt ?_
 refine AK.regs ?_
 refine SK.run 7 [.m (rowsJ l) []] ?_ ?_
 ·((repeat' apply And.intro) <;> first | exact kD | (intro hgd; refine ⟨?_, kG⟩; (repeat' apply And.intro) <;> first | exact kD | skip) | skip)
  all_goals first | exact ⟨_, rfl⟩ | exact hi2 | exact (rowsJ_len l).symm | exact (rowsJ_ok l).2 | (rw [rowsJ_len]; show (l.length + 1) * 8 ≤ 140737488355328; omega) | (rw [rowsJ_len]; show l.length + 1 ≤ 140737488355328; omega) | (show 0 < 1; omega) | skip
 refine SK.open 12 12 1000001 rfl (by omega) rfl fun cap m h1 h2 => ?_
 refine SK.all [] ?_ ?_
 ·((repeat' apply And.intro) <;> first | exact kD | (intro hgd; refine ⟨?_, kG⟩; (repeat' apply And.intro) <;> first | exact kD | skip) | skip)
 show RQX _ _ _ _ .normal _ _
 rw [hsn] at h1 h2
 rw [rowsJ_len] at h1
 refine ⟨(cap, m), ⟨h1, h2⟩, ⟨_, rfl, rfl⟩, ⟨_, rfl, ?_⟩, ⟨_, rfl, rfl⟩, ⟨_, rfl, ?_⟩, trivial⟩
 ·show [AV.np 2900001 0, AV.int .i64 last, AV.sli 1000001 1 (rowsJ l ++ rowsJ [n]).length cap, AV.int .i64 fuse, AV.bool down, npC] = _
  rw [hsn, rowsJ_len]
 ·rw [hsn]
  exact told_rowsJ _ _
end Go.Proofs.YtdncaodccgfniaaDoor
namespace Go.Proofs.YtdncaodccgfniaaDoor
open Go.RowKit
def nmI (i : Nat) : ByteArray := ⟨#[99, (97 + i % 26).toUInt8, (97 + i / 26).toUInt8]⟩
def idI (i : Nat) : OId := if i < 60 then ⟨⟨#[65]⟩, ⟨#[98]⟩, nmI i⟩ else ⟨⟨#[]⟩, ⟨#[]⟩, ⟨(List.replicate i 0).toArray⟩⟩
theorem nmI_inj : ∀ i : Fin 60, ∀ j : Fin 60, nmI i.val = nmI j.val → i = j := by decide +kernel
theorem idI_ne (i j : Nat) (h : i < j) : idI i ≠ idI j := by
 unfold idI
 intro e
 by_cases hi : i < 60
 ·rw [if_pos hi] at e
  by_cases hj : j < 60
  ·rw [if_pos hj] at e
   injection e with _ _ e
   have := nmI_inj ⟨i, hi⟩ ⟨j, hj⟩ e
   have := congrArg Fin.val this
   simp only at this
   omega
  ·rw [if_neg hj] at e
   injection e with e _ _
   have := congrArg ByteArray.size e
   cases this
 ·rw [if_neg hi, if_neg (by omega)] at e
  injection e with _ _ e
  have := congrArg ByteArray.size e
  have h1 : ∀ k : Nat, (⟨(List.replicate k (0 : UInt8)).toArray⟩ : ByteArray).size = k := fun k => by
   show (List.replicate k (0 : UInt8)).toArray.size = k
   simp
  rw [h1, h1] at this
  omega
end Go.Proofs.YtdncaodccgfniaaDoor
namespace Go.Proofs.YtdncaodccgfniaaDoor
set_option maxRecDepth 100000
def b_tree_byKey : ACode :=
 .seq (gQ [gP 2 0, gJ 4 0]) (.seq (gQ [gF 5 0 2, gL 6 5, gM 7 1, gC 8 31 [.s 6, .s 7], gM 4 8]) .ret)
def a_tree_byKey : AFn := ⟨2, 9, b_tree_byKey, [.tmp 4]⟩
theorem a_tree_byKey_ok : fnAF Tryd.prog [] Tryd.f21 = some a_tree_byKey := by kernel_rfl
theorem a_tree_byKey_cb : callable Tryd.prog 21 = true := by kernel_rfl
def b_slices_BinarySearchFunc_string : ACode :=
 .seq (gQ [gJ 6 0, ⟨gO, .mov 7 (.k (.bool false))⟩]) (.seq (gQ [gM 12 0, gH 13 false 12, gM 8 13]) (.seq (gQ [gM 14 8, gJ 9 0, gM 10 14]) (.seq (.block 0 (.loop (.seq (.seq (gQ [gM 15 9, gM 16 10, gV 17 .lss 15 16]) (.cond (.s 17) .skip (.exit 0))) (.block 1 (.seq (gQ [gM 18 9, gM 19 10, gV 20 .add 18 19, ⟨gO, .conv 21 .u64 (.s 20)⟩, ⟨gO, gB 22 .shr (.s 21) (.k (.int .u64 1))⟩, ⟨gO, .conv 23 .i64 (.s 22)⟩, gM 11 23]) (.seq (gQ [gM 24 2, gM 25 0, gM 26 11, gE 27 7 25 26, gA 28 7 27, gM 29 1, ⟨gO, .call (some 30) (.s 24) [.s 28, .s 29]⟩, gU 31 .lss 30 0]) (.cond (.s 31) (.reg [gM 32 11, gU 33 .add 32 1, gM 9 33]) (.reg [gM 34 11, gM 10 34])))))))) (.seq (gQ [gM 35 9, gM 36 9, gM 37 8, gV 38 .lss 36 37, gM 39 38, gN 39 true 40 2, gN 39 true 41 0, gN 39 true 42 9, ⟨some (39, true), .idx 43 7 (.s 41) (.s 42)⟩, ⟨some (39, true), .ld 44 7 true (.s 43)⟩, gN 39 true 45 1, ⟨some (39, true), .call (some 46) (.s 40) [.s 44, .s 45]⟩, ⟨some (39, true), .bin 47 .eql false (.s 46) (gI 0)⟩, ⟨gO, .pick 48 (.s 39) (.s 47) (.k (.bool false))⟩, gM 6 35, gM 7 48]) .ret))))
def a_slices_BinarySearchFunc_string : AFn := ⟨3, 49, b_slices_BinarySearchFunc_string, [.tmp 6, .tmp 7]⟩
theorem a_slices_BinarySearchFunc_string_ok : fnAF Tryd.prog [] Tryd.f20 = some a_slices_BinarySearchFunc_string := by kernel_rfl
theorem a_slices_BinarySearchFunc_string_cb : callable Tryd.prog 20 = true := by kernel_rfl
def b_strings_Compare : ACode :=
 .seq (gQ [gJ 4 0]) (.seq (gQ [gM 5 0, gM 6 1, gC 7 49 [.s 5, .s 6], gM 4 7]) .ret)
def a_strings_Compare : AFn := ⟨2, 8, b_strings_Compare, [.tmp 4]⟩
theorem a_strings_Compare_ok : fnAF Tryd.prog [] Tryd.f31 = some a_strings_Compare := by kernel_rfl
theorem a_strings_Compare_cb : callable Tryd.prog 31 = true := by kernel_rfl
end Go.Proofs.YtdncaodccgfniaaDoor
