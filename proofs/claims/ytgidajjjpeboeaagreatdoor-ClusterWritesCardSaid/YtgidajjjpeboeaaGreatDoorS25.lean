/-
  The texts that the claim wants, one behind the other: part 25.
-/
import Derived.Test.YtgidajjjpeboeaaGreatDoorS24
import Derived.DeepKeys4
import Derived.Test.YtgidajjjpeboeaaGreatDoorChecked
import Derived.KernelRfl
set_option linter.unusedSimpArgs false
set_option linter.unusedVariables false
namespace Go.Proofs.YtgidajjjpeboeaaGreatDoor
open Go.RowKit Go.Maps Go.MapKept Go.ChangeMaps
theorem keyedID : Keyed Tryz.prog 24 := Keyed.of_law (deep_law_laid (by kernel_rfl) (m := 2) (by omega) (of_decide_eq_true (by kernel_rfl)) (by kernel_rfl) (by rw [Tryz.underlying24]))
def KeyI (a b c : ByteArray) : Prop := ∃ l, keyOf Tryz.prog 24 (.agg #[.string a, .string b, .string c]) = some l
theorem keyV_id (a b c : ByteArray) : keyV (idK a b c) = some (.agg #[.string a, .string b, .string c]) := rfl
abbrev zE : List AV := [.int .i64 0, .bool false, .int .i64 0, .str ⟨#[]⟩, .lst .any 6 [], .lst .any 7 [], .int .i64 0]
abbrev zV : Value := .agg #[.int .i64 0, .bool false, .int .i64 0, .string ⟨#[]⟩, .slice none 0 0, .slice none 0 0, .int .i64 0]
theorem zero_e (w : World) : (zeroValue 84).run Tryz.prog w = .ok zV w := by kernel_rfl
theorem rel_none (σ : Sg) (esz : Nat) : Rel1 σ (.slice none 0 0) (.lst .any esz []) := .lst .any esz [] none 0 0 0 0 (fun _ _ => undef) rfl (Nat.le_refl _) (fun h => by omega) (fun i c h => by simp at h) (fun i j h => by omega) (fun i j c a h => by simp at h) trivial
theorem zero_relE (σ : Sg) : RelP σ zV (valA zE) := ⟨_, rfl, .cons (.int _ _) (.cons (.bool _) (.cons (.int _ _) (.cons (.str _) (.cons (rel_none σ 6) (.cons (rel_none σ 7) (.cons (.int _ _) .nil))))))⟩
abbrev cM : List AV := (vC (emV))
abbrev enA (n : Int) : List AV := [.int .i64 5, .bool false, .int .i64 0, .str ⟨#[]⟩, .lst .any 6 [], .lst .any 7 [], .int .i64 n]
theorem get_m {rows : List MRow} {a b c : ByteArray} (hk : KeysOk Tryz.prog 24 rows) (h : KeyI a b c) : (Found rows (idK a b c) none → MOp Tryz.prog (.get 68 true) [(2900001, [mcA rows])] [.np 2900001 0, .agg (idK a b c)] [(2900001, [mcA rows])] (.tup [.agg zE, .bool false])) ∧
  (∀ n, Found rows (idK a b c) (some (enA n)) → MOp Tryz.prog (.get 68 true) [(2900001, [mcA rows])] [.np 2900001 0, .agg (idK a b c)] [(2900001, [mcA rows])] (.tup [.agg (enA n), .bool true])) := by
 obtain ⟨l, hl⟩ := h
 have ht : ∀ z : List AV, z = zE ∨ (∃ n, z = enA n) → ∀ c ∈ z, c.isTup = false := by
  rintro z (rfl | ⟨n, rfl⟩) c hc <;> (simp at hc; rcases hc with rfl | rfl | rfl | rfl | rfl | rfl | rfl <;> rfl)
 exact ⟨fun ho => mop_get (z := zE) (o := none) true rfl Tryz.underlying68 keyedID hk (keyV_id a b c) hl zero_e zero_relE ho (ht _ (.inl rfl)),
  fun n ho => mop_get (z := zE) (o := some (enA n)) true rfl Tryz.underlying68 keyedID hk (keyV_id a b c) hl zero_e zero_relE ho (ht _ (.inr ⟨n, rfl⟩))⟩
theorem set_m {rows : List MRow} {a b c : ByteArray} (hk : KeysOk Tryz.prog 24 rows) (h : KeyI a b c) (n : Int) : MOp Tryz.prog (.set 68) [(2900001, [mcA rows])] [.np 2900001 0, .agg (idK a b c), .agg (enA n)] [(2900001, [mcA (putR rows (idK a b c) (enA n))])] (.bool true) := by
 obtain ⟨l, hl⟩ := h
 exact mop_set (vc := enA n) rfl Tryz.underlying68 keyedID hk (keyV_id a b c) hl fun c hc => by
  simp at hc
  rcases hc with rfl | rfl | rfl | rfl | rfl | rfl | rfl <;> rfl
theorem put_m {rows : List MRow} {a b c : ByteArray} (hk : KeysOk Tryz.prog 24 rows) (h : KeyI a b c) (last fuse : Int) (down : Bool) (hl : -1000 ≤ last ∧ last ≤ 1000) :
  MS Tryz.prog 45 (cluS 2000000 2900001 rows last fuse down) [.np 2000000 0, .agg (idK a b c), (vA (emV))] (cluS 2000000 2900001 (putR rows (idK a b c) (enA (last + 1))) (last + 1) fuse down) (.tup []) := by
 have hc : AC Tryz.prog 38 [(vA (emV))] ((vA (emV))) := clone_ok emV (by decide +kernel)
 rw [show last + 1 = IntKind.i64.wrap (last + 1) from (wrap_in (by omega) (by omega)).symm]
 have hs := set_m hk h (IntKind.i64.wrap (last + 1))
 refine MS.enter Tryz.func45 a_cluster_Cluster_put_ok a_cluster_Cluster_put_cb (by rfl) (by rfl) fun E hE => ?_
 show AK _ _ _ [.c b_cluster_Cluster_put] _ _
 rw [b_cluster_Cluster_put]
 refine kW ?_
 refine kQ [.v ((vA (emV))), .s [2900001] [(2900001, [mcA (putR rows (idK a b c) (enA (IntKind.i64.wrap (last + 1))))])] (.bool true)] ?_
 refine kW ?_
 show RQS _ _ _ .normal _ _
 exact ⟨⟨_, rfl, rfl⟩, ⟨_, rfl, rfl⟩, ⟨_, rfl, rfl⟩, trivial⟩
end Go.Proofs.YtgidajjjpeboeaaGreatDoor
namespace Go.Proofs.YtgidajjjpeboeaaGreatDoor
set_option maxRecDepth 100000
def b_cluster_Cluster_Objects : ACode :=
 .seq (gQ [⟨gO, .mov 2 (.k (.lst .nil 9 []))⟩]) (.seq (.seq (gQ [gM 6 0, ⟨gO, .eqs 7 false 33 (.s 6) (.k (.raw (Value.pointer none)))⟩]) (.cond (.s 7) (.seq (gQ [⟨gO, .mov 2 (.k (.lst .nil 9 []))⟩]) .ret) .skip)) (.seq (gQ [⟨gO, .mov 3 (.k (.lst .nil 9 []))⟩]) (.seq (.seq (gQ [gM 8 0, gF 9 0 8, gF 10 0 9, gL 11 10, ⟨gO, .rng 68 12 (.s 11)⟩]) (.block 0 (.loop (.seq (gQ [⟨gO, .nxt 13 (.s 12)⟩, gX 14 0 13]) (.seq (.cond (.s 14) .skip (.exit 0)) (.block 1 (.seq (gQ [⟨gO, .ent 15 (.s 12)⟩, gX 16 0 15, gX 17 1 15, ⟨gO, .alloc 4 [.str ⟨#[]⟩, .str ⟨#[]⟩, .str ⟨#[]⟩]⟩, ⟨gO, .alloc 5 [.int .i64 0, .bool false, .int .i64 0, .str ⟨#[]⟩, .lst .nil 6 [], .lst .nil 7 [], .int .i64 0]⟩, gT 3 4 16, gT 7 5 17]) (.reg [gM 18 3, gA 19 3 4, gF 20 0 5, gA 21 6 20, gC 22 38 [.s 21], ⟨gO, .build 23 [.str ⟨#[]⟩, .str ⟨#[]⟩, .str ⟨#[]⟩, .int .i64 0, .bool false, .int .i64 0, .str ⟨#[]⟩, .lst .nil 6 [], .lst .nil 7 []] [(0, 3, .s 19), (3, 6, .s 22)]⟩, ⟨gO, .bsl 24 1 9 [.str ⟨#[]⟩, .str ⟨#[]⟩, .str ⟨#[]⟩, .int .i64 0, .bool false, .int .i64 0, .str ⟨#[]⟩, .lst .nil 6 [], .lst .nil 7 []] [(0, 9, .s 23)]⟩, ⟨gO, .appr 25 9 136 (.s 18) (.s 24)⟩, gM 3 25])))))))) (.seq (gQ [gM 26 3, ⟨gO, .calls (some 27) (.k (.fn 39 [])) [.s 26, .k (.fn 40 [])]⟩]) (.seq (gQ [gM 28 3, gM 2 28]) .ret)))))
def a_cluster_Cluster_Objects : AFn := ⟨1, 29, b_cluster_Cluster_Objects, [.tmp 2]⟩
theorem a_cluster_Cluster_Objects_ok : fnAF Tryz.prog [2000039, 4000025] Tryz.f11 = some a_cluster_Cluster_Objects := by kernel_rfl
theorem a_cluster_Cluster_Objects_cb : callable Tryz.prog 11 = true := by kernel_rfl
end Go.Proofs.YtgidajjjpeboeaaGreatDoor
