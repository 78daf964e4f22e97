/-
  The texts that the claim wants, one behind the other: part 33.
-/
import Derived.Test.YtgidajjjpeboeaaGreatDoorS32
import Derived.Test.YtgidajjjpeboeaaGreatDoorChecked
import Derived.KernelRfl
set_option linter.unusedSimpArgs false
set_option linter.unusedVariables false
namespace Go.Proofs.YtgidajjjpeboeaaGreatDoor
open Go.RowKit Go.Maps Go.MapKept Go.ChangeMaps
abbrev cluFA (c m : Nat) (rows : List MRow) (last fuse : Int) (down : Bool) : List (Nat × List AV) := [(c, [.np m 0, .int .i64 last, .lst .nil 1 [], .int .i64 fuse, .bool down, npC]), (m, [mcA rows])]
abbrev cluFB (c m q : Nat) (rows : List MRow) (last fuse : Int) (down : Bool) (l : List Int) (i : Nat × Nat) : List (Nat × List AV) := [(c, [.np m 0, .int .i64 last, .sli q 1 l.length i.1, .int .i64 fuse, .bool down, npC]), (m, [mcA rows]), (q, (rowsJ l).flatten ++ List.replicate i.2 AV.top)]
def cluFI (l : List Int) (i : Nat × Nat) : Prop := l.length ≤ i.1 ∧ ((rowsJ l).flatten ++ List.replicate i.2 AV.top).length = i.1 * 1
theorem map_rowsJ {g : AV → AV} (h1 : ∀ n, g (.int .i64 n) = .int .i64 n) (h2 : g .top = .top) (l : List Int) (m : Nat) : ((rowsJ l).flatten ++ List.replicate m AV.top).map g = (rowsJ l).flatten ++ List.replicate m AV.top := by
 rw [List.map_append, List.map_replicate, h2]
 congr 1
 induction l with
 | nil => rfl
 | cons n l ih =>
  show ([AV.int .i64 n] ++ (rowsJ l).flatten).map g = [AV.int .i64 n] ++ (rowsJ l).flatten
  rw [List.map_append, ih]
  show [g (.int .i64 n)] ++ _ = _
  rw [h1]
theorem told_rowsJ (l : List Int) (m : Nat) : ((rowsJ l).flatten ++ List.replicate m AV.top).map AV.told = (rowsJ l).flatten ++ List.replicate m AV.top := map_rowsJ (fun _ => rfl) rfl l m
theorem clr_rowsJ (N : List Nat) (l : List Int) (m : Nat) : ((rowsJ l).flatten ++ List.replicate m AV.top).map (clrC N) = (rowsJ l).flatten ++ List.replicate m AV.top := map_rowsJ (fun _ => rfl) rfl l m
theorem ren_rowsJ (ρ : Nat → Nat) (l : List Int) (m : Nat) : ((rowsJ l).flatten ++ List.replicate m AV.top).map (AV.ren ρ) = (rowsJ l).flatten ++ List.replicate m AV.top := map_rowsJ (fun _ => rfl) rfl l m
theorem all_rowsJ {g : AV → Bool} (h1 : ∀ n, g (.int .i64 n) = true) (h2 : g .top = true) (l : List Int) (m : Nat) : ((rowsJ l).flatten ++ List.replicate m AV.top).all g = true := by
 rw [List.all_eq_true]
 intro c hc
 rcases List.mem_append.1 hc with hc | hc
 ·obtain ⟨r, hr, hcr⟩ := List.mem_flatten.1 hc
  obtain ⟨n, _, rfl⟩ := List.mem_map.1 hr
  rw [List.mem_singleton.1 hcr]
  exact h1 n
 ·rw [(List.mem_replicate.1 hc).2]
  exact h2
theorem rowsJ_ok (l : List Int) : RowsOk 1 (rowsJ l) := ⟨by omega, fun c hc => by
 obtain ⟨o, _, rfl⟩ := List.mem_map.1 hc
 exact ⟨rfl, rfl⟩⟩
theorem okIn_B (rows : List MRow) (last fuse : Int) (down : Bool) (l : List Int) (i : Nat × Nat) (n : Int) : okInS (cluFB 2000000 2900001 2000001 rows last fuse down l i) [.np 2000000 0, .lst .any 1 (rowsJ [n])] = true := by
 unfold okInS
 show (true && (true && (((rowsJ l).flatten ++ List.replicate i.2 AV.top).all AV.okIn && true)) && true) = true
 rw [all_rowsJ (fun _ => rfl) rfl]
 rfl
theorem fail_nil (rows : List MRow) (last fuse : Int) (down : Bool) (n : Int) : MSX Tryz.prog 36 (cluFA 2000000 2900001 rows last fuse down) [.np 2000000 0, .lst .any 1 (rowsJ [n])] (cluFI [n]) (fun i => cluFB 2000000 2900001 1000001 rows last fuse down [n] i) (fun _ => .tup []) := by
 refine MSX.enter Tryz.func36 a_cluster_Cluster_FailX_ok a_cluster_Cluster_FailX_cb (by rfl) (by rfl) fun E hE => ?_
 show AK _ _ _ [.c b_cluster_Cluster_FailX] _ _
 rw [b_cluster_Cluster_FailX]
 refine kS ?_
 refine kP [] ?_ ?_
 ·((repeat' apply And.intro) <;> first | exact kD | (intro hgd; refine ⟨?_, kG⟩; (repeat' apply And.intro) <;> first | exact kD | skip) | skip)
  ·exact fun g o => someClu true g o
 refine kCt ?_
 refine AK.regs ?_
 refine SK.run 7 [.m [] []] ?_ ?_
 ·((repeat' apply And.intro) <;> first | exact kD | (intro hgd; refine ⟨?_, kG⟩; (repeat' apply And.intro) <;> first | exact kD | skip) | skip)
  ·show 0 < 1; omega
  ·show 1 * 8 ≤ 140737488355328; omega
  ·show 1 ≤ 140737488355328; omega
 refine SK.open 12 12 1000001 rfl (by omega) rfl fun cap m h1 h2 => ?_
 refine SK.all [] ?_ ?_
 ·((repeat' apply And.intro) <;> first | exact kD | (intro hgd; refine ⟨?_, kG⟩; (repeat' apply And.intro) <;> first | exact kD | skip) | skip)
 show RQX _ _ _ _ .normal _ _
 exact ⟨(cap, m), ⟨h1, h2⟩, ⟨_, rfl, rfl⟩, ⟨_, rfl, rfl⟩, ⟨_, rfl, rfl⟩, ⟨_, rfl, told_rowsJ [n] m⟩, trivial⟩
theorem fail_more (rows : List MRow) (last fuse : Int) (down : Bool) (l : List Int) (hl : l.length ≤ 1000000) (i : Nat × Nat) (hi : cluFI l i) (n : Int) : MSX Tryz.prog 36 (cluFB 2000000 2900001 2000001 rows last fuse down l i) [.np 2000000 0, .lst .any 1 (rowsJ [n])] (cluFI (l ++ [n])) (fun j => cluFB 2000000 2900001 1000001 rows last fuse down (l ++ [n]) j) (fun _ => .tup []) := by
 obtain ⟨cap0, m0⟩ := i
 obtain ⟨hi1, hi2⟩ := hi
 dsimp only at hi1 hi2
 have hlen : (rowsJ l ++ rowsJ [n]).length = l.length + 1 := by rw [List.length_append, rowsJ_len]; rfl
 have hsn : rowsJ l ++ rowsJ [n] = rowsJ (l ++ [n]) := (rowsJ_snoc l n).symm
 refine MSX.enter Tryz.func36 a_cluster_Cluster_FailX_ok a_cluster_Cluster_FailX_cb (by rfl) (okIn_B rows last fuse down l (cap0, m0) n) fun E hE => ?_
 show AK _ _ _ [.c b_cluster_Cluster_FailX] _ _
 rw [b_cluster_Cluster_FailX]
 refine kS ?_
 refine kP [] ?_ ?_
 ·((repeat' apply And.intro) <;> first | exact kD | (intro hgd; refine ⟨?_, kG⟩; (repeat' apply And.intro) <;> first | exact kD | skip) | skip)
  ·exact fun g o => someClu true g o
 refine kCt ?_
 refine AK.regs ?_
 refine SK.run 7 [.m (rowsJ l) []] ?_ ?_
 ·((repeat' apply And.intro) <;> first | exact kD | (intro hgd; refine ⟨?_, kG⟩; (repeat' apply And.intro) <;> first | exact kD | skip) | skip)
  all_goals first | exact ⟨_, rfl⟩ | exact hi2 | exact (rowsJ_len l).symm | exact (rowsJ_ok l).2 | (rw [rowsJ_len]; show (l.length + 1) * 8 ≤ 140737488355328; omega) | (rw [rowsJ_len]; show l.length + 1 ≤ 140737488355328; omega) | (show 0 < 1; omega) | skip
 refine SK.open 12 12 1000001 rfl (by omega) rfl fun cap m h1 h2 => ?_
 refine SK.all [] ?_ ?_
 ·((repeat' apply And.intro) <;> first | exact kD | (intro hgd; refine ⟨?_, kG⟩; (repeat' apply And.intro) <;> first | exact kD | skip) | skip)
 show RQX _ _ _ _ .normal _ _
 rw [hsn] at h1 h2
 rw [rowsJ_len] at h1
 refine ⟨(cap, m), ⟨h1, h2⟩, ⟨_, rfl, rfl⟩, ⟨_, rfl, ?_⟩, ⟨_, rfl, rfl⟩, ⟨_, rfl, ?_⟩, trivial⟩
 ·show [AV.np 2900001 0, AV.int .i64 last, AV.sli 1000001 1 (rowsJ l ++ rowsJ [n]).length cap, AV.int .i64 fuse, AV.bool down, npC] = _
  rw [hsn, rowsJ_len]
 ·rw [hsn]
  exact told_rowsJ _ _
end Go.Proofs.YtgidajjjpeboeaaGreatDoor
namespace Go.Proofs.YtgidajjjpeboeaaGreatDoor
set_option maxRecDepth 100000
def b_cluster_Cluster_writeW : ACode :=
 .seq (gQ [gJ 2 0]) (.seq (.block 0 (.seq (gQ [gM 8 0, ⟨gO, .eqs 9 false 33 (.s 8) (.k (.raw (Value.pointer none)))⟩, gM 7 9]) (.cond (.s 7) (.seq (gQ [gJ 2 2]) .ret) (.seq (gQ [gM 11 0, gF 12 0 11, gF 13 4 12, gL 14 13, gM 15 14, gN 15 false 16 0, ⟨some (15, false), .off 17 0 (.s 16)⟩, ⟨some (15, false), .off 18 3 (.s 17)⟩, ⟨some (15, false), .ld 19 1 false (.s 18)⟩, ⟨some (15, false), .bin 20 .eql false (.s 19) (gI 0)⟩, ⟨gO, .pick 21 (.s 15) (.k (.bool true)) (.s 20)⟩, gM 10 21]) (.cond (.s 10) (.seq (gQ [gM 22 0, gF 23 0 22, gF 24 4 23, ⟨gO, .st 1 (.s 24) (.k (.bool true))⟩]) (.seq (gQ [gJ 2 31]) .ret)) (.seq (gQ [gM 26 0, gF 27 0 26, gF 28 3 27, gL 29 28, gU 30 .gtr 29 0, gM 25 30]) (.cond (.s 25) (.reg [gM 31 0, gF 32 0 31, gF 33 3 32, gL 34 33, gU 35 .sub 34 1, gF 36 0 31, gF 37 3 36, gT 1 37 35]) .skip))))))) (.seq (gQ [gM 38 0, gF 39 0 38, gF 40 2 39, gL 41 40, gC 42 79 [.s 41, gI 0], gM 3 42]) (.seq (gQ [⟨gO, .mov 4 (.k (.lst .nil 1 []))⟩]) (.seq (.seq (gQ [gM 43 0, gF 44 0 43, gF 45 2 44, gL 46 45, gH 47 false 46, gJ 48 0]) (.block 1 (.loop (.seq (gQ [gV 49 .lss 48 47]) (.seq (.cond (.s 49) .skip (.exit 1)) (.seq (.block 2 (.seq (gQ [gE 50 1 46 48, gL 51 50, gM 6 51]) (.seq (gQ [gM 52 6, gU 53 .gtr 52 0]) (.cond (.s 53) (.reg [gM 54 4, gM 55 6, gU 56 .sub 55 1, ⟨gO, .bsl 57 1 1 [.int .i64 0] [(0, 1, .s 56)]⟩, ⟨gO, .appr 58 1 8 (.s 54) (.s 57)⟩, gM 4 58]) .skip)))) (.reg [gU 59 .add 48 1, gM 48 59]))))))) (.seq (gQ [gM 60 0, gM 61 4, gF 62 0 60, gF 63 2 62, gT 1 63 61]) (.seq (.seq (gQ [gM 64 3]) (.cond (.s 64) (.seq (gQ [gM 65 0, gF 66 0 65, gF 67 5 66, gL 68 67, gC 69 44 [.s 68, gI 4]]) (.seq (gQ [gJ 2 30]) .ret)) .skip)) (.seq (gQ [gJ 2 0]) .ret)))))))
def a_cluster_Cluster_writeW : AFn := ⟨1, 70, b_cluster_Cluster_writeW, [.tmp 2]⟩
theorem a_cluster_Cluster_writeW_ok : fnAF Tryz.prog [2000043, 4000058] Tryz.f43 = some a_cluster_Cluster_writeW := by kernel_rfl
theorem a_cluster_Cluster_writeW_cb : callable Tryz.prog 43 = true := by kernel_rfl
end Go.Proofs.YtgidajjjpeboeaaGreatDoor
