/-
  The texts that the claim wants, one behind the other: part 48.
-/
import Derived.Test.YtnpkejnaeemgjaaGreatDoorS47
set_option linter.unusedSimpArgs false
set_option linter.unusedVariables false
namespace Go.Proofs.YtnpkejnaeemgjaaGreatDoor
open Go.RowKit
set_option maxRecDepth 100000 in
theorem delete_nil (key : ByteArray) : AC Tryz.prog 121 [.lst .any 7 [], .fn 122 [.ro [.str key]]] (.lst .any 7 []) := by
 refine ⟨by kernel_rfl, fun σ w vs hh hr hg => ?_⟩
 have hI := (indexP_a [] key (by simp)).run σ w vs hh hr hg
 obtain ⟨v1, v2, rfl, h1, h2⟩ := two_args hr
 have h1 : Rel1 σ v1 (.lst .any 7 []) := h1
 have h2 : Rel1 σ v2 (.fn 122 [.ro [.str key]]) := h2
 obtain ⟨A1, c1, b1, o1, n1, rfl, _⟩ := lst_cells h1
 cases h2 with
 | fn f cap us hl g hgg hrr =>
  go_enter Tryz.func121, Tryz.ntmps121
  go_wp2_with fail
  refine hI.mono ?_
  rintro e w1 ⟨σ', v, rfl, hx, hh', hb, hr'⟩
  have hr' : Rel1 σ' v (.int .i64 (-1)) := hr'
  cases hr'
  go_wp2
  go_ret
  exact ⟨σ', _, rfl, hx, hh', hb, h1.mono hx.1⟩
theorem dropNil_a (key : ByteArray) : AC Tryz.prog 84 [(vA ((vMap []))), .str key] ((vA ((vMap [])))) := by
 have h := delete_nil key
 have hC := clone_ok (vMap []) (by rw [vMap_size]; simp [sizeM])
 refine kE Tryz.func84 a_tree_Drop_ok a_tree_Drop_cb fun E hE => ?_
 refine kW ?_
 refine kQ [.v ((vA ((vMap []))))] ?_
 refine kW ?_
 refine kQ [.v (.lst .any 7 [])] ?_
 refine kW ?_
 refine AK.ret ⟨_, rfl, ?_⟩
 rfl
end Go.Proofs.YtnpkejnaeemgjaaGreatDoor
/-
 tree.Drop at a map that isn't empty, walked.
-/
namespace Go.Proofs.YtnpkejnaeemgjaaGreatDoor
open Go.RowKit
def DropW (σ : Sg) (m : List (ByteArray × V)) (w : World) (e : Ending) (w' : World) : Prop :=
 ∃ σ' g cap A c0, e = .returned (.agg #[.int .i64 5, .bool false, .int .i64 0, .string ⟨#[]⟩, .slice A 0 c0, .slice (some ⟨g, 0, none⟩) m.length cap]) ∧ Ext σ σ' w.heap.size ∧ Holds σ' w' ∧ Below w.heap.size w w' ∧ w.heap.size ≤ g ∧ m.length ≤ cap ∧ (∀ j, σ' g j = none) ∧
  ∃ ty cur, w'.heap[g]? = some (.cells cur ty (0, 0)) ∧ cur.size = cap * 7 ∧ RelL σ' (cur.toList.take (m.length * 7)) (rowsM m).flatten
set_option maxHeartbeats 4000000 in
set_option maxRecDepth 100000 in
theorem drop_any (m : List (ByteArray × V)) (key : ByteArray) (hne : m ≠ []) (hri : Rises m) (hsz : sizeM m ≤ 100000000) {σ : Sg} {w : World} {A1 A2 : Option Addr} {c1 c2 : Nat} (hh : Holds σ w) (hg : GW w) (hr : RelP σ (.agg #[.int .i64 5, .bool false, .int .i64 0, .string ⟨#[]⟩, .slice A1 0 c1, .slice A2 m.length c2]) ((vA ((vMap m))))) :
  Calls Tryz.prog 84 #[.agg #[.int .i64 5, .bool false, .int .i64 0, .string ⟨#[]⟩, .slice A1 0 c1, .slice A2 m.length c2], .string key] w (DropW σ (fdrop key m) w) := by
 have hbA : Below w.heap.size w (((w.alloc (.cells #[.int .i64 5, .bool false, .int .i64 0, .string ⟨#[]⟩, .slice A1 0 c1, .slice A2 m.length c2] 25)).alloc (.cells #[.string key] 9)).alloc (.cells #[.int .i64 0, .bool false, .int .i64 0, .string ⟨#[]⟩, .slice none 0 0, .slice none 0 0] 25)) := (((Below.refl _ _).alloc (Nat.le_refl _) _).alloc (by simp) _).alloc (by simp; omega) _
 have hkA : Blk (((w.alloc (.cells #[.int .i64 5, .bool false, .int .i64 0, .string ⟨#[]⟩, .slice A1 0 c1, .slice A2 m.length c2] 25)).alloc (.cells #[.string key] 9)).alloc (.cells #[.int .i64 0, .bool false, .int .i64 0, .string ⟨#[]⟩, .slice none 0 0, .slice none 0 0] 25)) (w.heap.size + 1) 9 #[.string key] := (Blk.new _ _ _ (by simp)).alloc _
 have hvA : Blk (((w.alloc (.cells #[.int .i64 5, .bool false, .int .i64 0, .string ⟨#[]⟩, .slice A1 0 c1, .slice A2 m.length c2] 25)).alloc (.cells #[.string key] 9)).alloc (.cells #[.int .i64 0, .bool false, .int .i64 0, .string ⟨#[]⟩, .slice none 0 0, .slice none 0 0] 25)) w.heap.size 25 #[.int .i64 5, .bool false, .int .i64 0, .string ⟨#[]⟩, .slice A1 0 c1, .slice A2 m.length c2] := ((Blk.new _ _ _ rfl).alloc _).alloc _
 have hoA : Blk (((w.alloc (.cells #[.int .i64 5, .bool false, .int .i64 0, .string ⟨#[]⟩, .slice A1 0 c1, .slice A2 m.length c2] 25)).alloc (.cells #[.string key] 9)).alloc (.cells #[.int .i64 0, .bool false, .int .i64 0, .string ⟨#[]⟩, .slice none 0 0, .slice none 0 0] 25)) (w.heap.size + 2) 25 #[.int .i64 0, .bool false, .int .i64 0, .string ⟨#[]⟩, .slice none 0 0, .slice none 0 0] := Blk.new _ _ _ (by simp)
 have hzA : (((w.alloc (.cells #[.int .i64 5, .bool false, .int .i64 0, .string ⟨#[]⟩, .slice A1 0 c1, .slice A2 m.length c2] 25)).alloc (.cells #[.string key] 9)).alloc (.cells #[.int .i64 0, .bool false, .int .i64 0, .string ⟨#[]⟩, .slice none 0 0, .slice none 0 0] 25)).heap.size = w.heap.size + 3 := by simp
 have HA := Lib.hid hbA
 have HKA := Lib.hid hkA
 have HVA := Lib.hid hvA
 have HOA := Lib.hid hoA
 have HZA := Lib.hid hzA
 have HH := Lib.hid hh
 have HG := Lib.hid hg
 have HR := Lib.hid hr
 clear hbA hkA hvA hoA hzA hh hg hr
 go_enter Tryz.func84, Tryz.ntmps84
 go_wp2_with fail
 generalize ((w.alloc (.cells #[.int .i64 5, .bool false, .int .i64 0, .string ⟨#[]⟩, .slice A1 0 c1, .slice A2 m.length c2] 25)).alloc (.cells #[.string key] 9)).alloc (.cells #[.int .i64 0, .bool false, .int .i64 0, .string ⟨#[]⟩, .slice none 0 0, .slice none 0 0] 25) = wa at *
 have hhA : Holds σ wa := fun b q v hv => (HA.out.cell (p := ⟨b, q, none⟩) (World.block_lt_of_cell? w _ (HH.out _ _ _ hv))).trans (HH.out _ _ _ hv)
 refine (clone_fresh m hne (by omega) hhA HR.out (HG.out.below HA.out)).mono ?_
 rintro e w2 ⟨σ', g, cap, A, c0, rfl, hext, hh2, hb2, hgge, hrow⟩
 have hsz3 : wa.heap.size = w.heap.size + 3 := HZA.out
 have hlt3 : w.heap.size + 3 ≤ w2.heap.size := by rw [← hsz3]; exact hb2.size
 have HV2 := Lib.hid (HVA.out.below hb2 (by omega))
 have HO2 := Lib.hid (HOA.out.below hb2 (by omega))
 have HK2 := Lib.hid (HKA.out.below hb2 (by omega))
 have HE := Lib.hid hext
 have HH2 := Lib.hid hh2
 have HB2 := Lib.hid hb2
 have HGG := Lib.hid hgge
 have HRW := Lib.hid hrow
 clear hext hh2 hb2 hgge hrow hhA
 have k5 : (w2.setRow w.heap.size #[.int .i64 5, .bool false, .int .i64 0, .string ⟨#[]⟩, .slice A 0 c0, .slice (some ⟨g, 0, none⟩) m.length cap]).cell? ⟨w.heap.size, 5, none⟩ = some (.slice (some ⟨g, 0, none⟩) m.length cap) := (HV2.out.set #[.int .i64 5, .bool false, .int .i64 0, .string ⟨#[]⟩, .slice A 0 c0, .slice (some ⟨g, 0, none⟩) m.length cap]).cell 5
 go_wp2_with ((with_reducible refine wpList_store_row 2 6 25 (w.heap.size) 25 #[.int .i64 5, .bool false, .int .i64 0, .string ⟨#[]⟩, .slice A1 0 c1, .slice A2 m.length c2] #[.int .i64 5, .bool false, .int .i64 0, .string ⟨#[]⟩, .slice A 0 c0, .slice (some ⟨g, 0, none⟩) m.length cap] ?_ ?_ ?_ ?_ ?_ ?_ ?_); rfl; rfl; exact HV2.out; rfl; exact (show ∀ u ∈ [Value.int .i64 5, .bool false, .int .i64 0, .string ⟨#[]⟩, .slice A 0 c0, .slice (some ⟨g, 0, none⟩) m.length cap], u.oneCell' = true by simp [Value.oneCell']); kernel_rfl)
 have hgne : g ≠ w.heap.size := by have := HGG.out; omega
 have hbw2 : Below w.heap.size w w2 := HA.out.trans (HB2.out.mono (by omega))
 have hbw3 : Below w.heap.size w (w2.setRow w.heap.size #[.int .i64 5, .bool false, .int .i64 0, .string ⟨#[]⟩, .slice A 0 c0, .slice (some ⟨g, 0, none⟩) m.length cap]) := below_setRow hbw2 (Nat.le_refl _) _
 have hsn : ∀ o, σ' w.heap.size o = none := fun o => by
  rw [HE.out.2 _ _ (by omega)]
  cases hs : σ w.heap.size o with
  | none => rfl
  | some v => exact absurd (World.block_lt_of_cell? w _ (HH.out _ _ _ hs)) (by simp)
 have hh3 : Holds σ' (w2.setRow w.heap.size #[.int .i64 5, .bool false, .int .i64 0, .string ⟨#[]⟩, .slice A 0 c0, .slice (some ⟨g, 0, none⟩) m.length cap]) := fun b o v hv => by
  have hb : b ≠ w.heap.size := fun e => by rw [e, hsn] at hv; cases hv
  rw [← HH2.out _ _ _ hv]
  unfold World.cell?
  rw [setRow_other w2 w.heap.size b _ hb]
 have hk3 : (w2.setRow w.heap.size #[.int .i64 5, .bool false, .int .i64 0, .string ⟨#[]⟩, .slice A 0 c0, .slice (some ⟨g, 0, none⟩) m.length cap]).cell? ⟨w.heap.size + 1, 0, none⟩ = some (.string key) := (HK2.out.setOther (by omega) _).cell 0
 have hrow3 : FRowW σ' (w2.setRow w.heap.size #[.int .i64 5, .bool false, .int .i64 0, .string ⟨#[]⟩, .slice A 0 c0, .slice (some ⟨g, 0, none⟩) m.length cap]) g cap 7 (rowsM m) := HRW.out.on (fun _ _ _ h => h) (setRow_other _ _ _ _ hgne) HRW.out.free
 refine (delete_any m key hri (by omega) hh3 (HG.out.below hbw3) hrow3 hk3 (by have := HGG.out; omega)).mono ?_
 rintro e w4 ⟨rfl, hbb, ty, cur, hgc, hcs, hcap, hrel⟩
 have hz4 : w2.heap.size ≤ w4.heap.size := by have := hbb.size; rw [setRow_size] at this; exact this
 have hv4 : Blk w4 w.heap.size 25 #[.int .i64 5, .bool false, .int .i64 0, .string ⟨#[]⟩, .slice A 0 c0, .slice (some ⟨g, 0, none⟩) m.length cap] := (hbb.block _ (by rw [setRow_size]; omega) (Ne.symm hgne)).trans (HV2.out.set _)
 have ho4 : Blk w4 (w.heap.size + 2) 25 #[.int .i64 0, .bool false, .int .i64 0, .string ⟨#[]⟩, .slice none 0 0, .slice none 0 0] := (hbb.block _ (by rw [setRow_size]; omega) (by have := HGG.out; omega)).trans (HO2.out.setOther (by omega) _)
 have k45 : w4.cell? ⟨w.heap.size, 5, none⟩ = some (.slice (some ⟨g, 0, none⟩) m.length cap) := hv4.cell 5
 have z45 := hv4.frozen 5
 have hv5 := hv4.setCell 5 (.slice (some ⟨g, 0, none⟩) (fdrop key m).length cap)
 have ho5 := ho4.far (p := ⟨w.heap.size, 5, none⟩) (by simp) (.slice (some ⟨g, 0, none⟩) (fdrop key m).length cap)
 have m0 : (w4.setCell ⟨w.heap.size, 5, none⟩ (.slice (some ⟨g, 0, none⟩) (fdrop key m).length cap)).cell? ⟨w.heap.size, 0, none⟩ = some (.int .i64 5) := hv5.cell 0
 have m1 : (w4.setCell ⟨w.heap.size, 5, none⟩ (.slice (some ⟨g, 0, none⟩) (fdrop key m).length cap)).cell? ⟨w.heap.size, 1, none⟩ = some (.bool false) := hv5.cell 1
 have m2 : (w4.setCell ⟨w.heap.size, 5, none⟩ (.slice (some ⟨g, 0, none⟩) (fdrop key m).length cap)).cell? ⟨w.heap.size, 2, none⟩ = some (.int .i64 0) := hv5.cell 2
 have m3 : (w4.setCell ⟨w.heap.size, 5, none⟩ (.slice (some ⟨g, 0, none⟩) (fdrop key m).length cap)).cell? ⟨w.heap.size, 3, none⟩ = some (.string ⟨#[]⟩) := hv5.cell 3
 have m4 : (w4.setCell ⟨w.heap.size, 5, none⟩ (.slice (some ⟨g, 0, none⟩) (fdrop key m).length cap)).cell? ⟨w.heap.size, 4, none⟩ = some (.slice A 0 c0) := hv5.cell 4
 have m5 : (w4.setCell ⟨w.heap.size, 5, none⟩ (.slice (some ⟨g, 0, none⟩) (fdrop key m).length cap)).cell? ⟨w.heap.size, 5, none⟩ = some (.slice (some ⟨g, 0, none⟩) (fdrop key m).length cap) := hv5.cell 5
 have HBB := Lib.hid hbb
 have HGC := Lib.hid hgc
 have HCS := Lib.hid hcs
 have HCP := Lib.hid hcap
 have HRL := Lib.hid hrel
 have HO5 := Lib.hid ho5
 clear hbb hgc hcs hcap hrel hv4 ho4 hv5 ho5 hh3 hk3 hrow3 hbw3 k5
 have hlz : w.heap.size < w4.heap.size := by omega
 go_wp2_with ((with_reducible refine wpList_store_row 4 12 25 (w.heap.size + 2) 25 #[.int .i64 0, .bool false, .int .i64 0, .string ⟨#[]⟩, .slice none 0 0, .slice none 0 0] #[.int .i64 5, .bool false, .int .i64 0, .string ⟨#[]⟩, .slice A 0 c0, .slice (some ⟨g, 0, none⟩) (fdrop key m).length cap] ?_ ?_ ?_ ?_ ?_ ?_ ?_); rfl; rfl; exact HO5.out; rfl; exact (show ∀ u ∈ [Value.int .i64 5, .bool false, .int .i64 0, .string ⟨#[]⟩, .slice A 0 c0, .slice (some ⟨g, 0, none⟩) (fdrop key m).length cap], u.oneCell' = true by simp [Value.oneCell']); kernel_rfl)
 refine bodyPost_ret (results_cell_row rfl _ _ _ _ _ _ _ rfl (HO5.out.set _) Tryz.underlying25 rfl (by kernel_rfl)) rfl ?_
 have hgg := HGG.out
 have heap : ∀ k, k ≠ w.heap.size → k ≠ w.heap.size + 2 → ((w4.setCell ⟨w.heap.size, 5, none⟩ (.slice (some ⟨g, 0, none⟩) (fdrop key m).length cap)).setRow (w.heap.size + 2) #[.int .i64 5, .bool false, .int .i64 0, .string ⟨#[]⟩, .slice A 0 c0, .slice (some ⟨g, 0, none⟩) (fdrop key m).length cap]).heap[k]? = w4.heap[k]? := fun k h1 h2 =>
  (setRow_other _ _ _ _ h2).trans (Below.heap_setCell w4 ⟨w.heap.size, 5, none⟩ _ k h1)
 have hno : ∀ b o v, σ' b o = some v → b ≠ w.heap.size ∧ b ≠ w.heap.size + 2 ∧ b ≠ g := fun b o v hv => by
  refine ⟨fun e => ?_, fun e => ?_, fun e => ?_⟩
  ·rw [e, hsn] at hv; cases hv
  ·rw [e, HE.out.2 _ _ (by omega)] at hv
   exact absurd (World.block_lt_of_cell? w _ (HH.out _ _ _ hv)) (by simp)
  ·rw [e, HRW.out.free] at hv; cases hv
 refine ⟨σ', g, cap, A, c0, rfl, ⟨HE.out.1, fun b o hb => HE.out.2 b o (by omega)⟩, fun b o v hv => ?_, ?_, by omega, HCP.out, HRW.out.free, ty, cur, (heap g (by omega) (by omega)).trans HGC.out, HCS.out, HRL.out⟩
 ·obtain ⟨n1, n2, n3⟩ := hno b o v hv
  have hv2 := HH2.out _ _ _ hv
  have hbl := World.block_lt_of_cell? w2 _ hv2
  rw [← hv2]
  unfold World.cell?
  rw [heap b n1 n2, HBB.out.block b (by rw [setRow_size]; exact hbl) n3, setRow_other _ _ _ _ n1]
 ·have hos : w4.os = w.os := HBB.out.os.trans hbw2.os
  have hta : w4.tape = w.tape := HBB.out.tape.trans hbw2.tape
  have hou : w4.output = w.output := HBB.out.output.trans hbw2.output
  have hb4 : Below w.heap.size w w4 := ⟨hos, hta, hou, by omega, fun k hk => (HBB.out.block k (by rw [setRow_size]; omega) (by omega)).trans ((setRow_other _ _ _ _ (by omega)).trans (hbw2.block k hk))⟩
  exact below_setRow (hb4.setCell (Nat.le_refl _) _) (by omega) _
theorem drop_ok : DropOk := fun m key hri hsz => by
 by_cases hm : m = []
 ·subst hm; exact dropNil_a key
 ·refine ⟨by kernel_rfl, fun σ w vs hh hr hg => ?_⟩
  obtain ⟨v1, v2, rfl, h1, h2⟩ := two_args hr
  have h2 : Rel1 σ v2 (.str key) := h2
  cases h2
  have h1' := h1
  obtain ⟨cs, rfl, hcs⟩ := h1
  have hlen := hcs.1
  obtain ⟨x1, x2, x3, x4, x5, x6, rfl⟩ : ∃ a b c d e f, cs = [a, b, c, d, e, f] := by
   rcases cs with _ | ⟨a, _ | ⟨b, _ | ⟨c, _ | ⟨d, _ | ⟨e, _ | ⟨f, _ | ⟨g, l⟩⟩⟩⟩⟩⟩⟩ <;> simp at hlen
   exact ⟨a, b, c, d, e, f, rfl⟩
  have r0 := hcs.2 0 x1 (.int .i64 5) rfl rfl
  have r1 := hcs.2 1 x2 (.bool false) rfl rfl
  have r2 := hcs.2 2 x3 (.int .i64 0) rfl rfl
  have r3 := hcs.2 3 x4 (.str ⟨#[]⟩) rfl rfl
  have r4 := hcs.2 4 x5 (.lst .any 6 []) rfl rfl
  have r5 := hcs.2 5 x6 (.lst .any 7 (rowsM m)) rfl rfl
  cases r0; cases r1; cases r2; cases r3
  obtain ⟨A1, c1, b1, o1, n1, rfl, _⟩ := lst_cells r4
  obtain ⟨A2, c2, b2, o2, n2, rfl, _⟩ := lst_cells r5
  rw [rowsM_len] at *
  refine (drop_any m key hm hri (by omega) hh hg h1').mono ?_
  rintro e w' ⟨σ', g, cap, A, c0, rfl, hext, hh', hb, hgge, hcap, hfree, ty, cur, hgc, hcsz, hrel⟩
  generalize fdrop key m = d at *
  obtain ⟨σ2, hσ2⟩ : ∃ σ2 : Sg, σ2 = fun b o => if b = g then cur[o]? else σ' b o := ⟨_, rfl⟩
  have hle : σ'.le σ2 := fun b o v hv => by
   rw [hσ2]
   simp only
   split
   ·rename_i e; subst e; rw [hfree] at hv; cases hv
   ·exact hv
  have hh2 : Holds σ2 w' := fun b o v hv => by
   rw [hσ2] at hv
   simp only at hv
   split at hv
   ·rename_i e; subst e
    rw [cell_of_row w' b o cur ty (0, 0) hgc]; exact hv
   ·exact hh' _ _ _ hv
  refine ⟨σ2, _, rfl, ⟨fun b o v hv => hle _ _ _ (hext.1 _ _ _ hv), fun b o hb => ?_⟩, hh2, hb, ?_⟩
  ·rw [hσ2]
   simp only
   rw [if_neg (by omega), hext.2 b o hb]
  ·refine ⟨_, rfl, ?_⟩
   have nl : ∀ (esz : Nat) (A : Option Addr) (c : Nat), Rel1 σ2 (.slice A 0 c) (.lst .any esz []) := fun esz A c => .lst .any esz [] A 0 c 0 0 (fun _ _ => undef) rfl (by omega) (fun h => by omega) (fun i c h => by simp at h) (fun i j h => by omega) (fun i j c a h => by simp at h) trivial
   have hok := fun c hc => ((rowsM_ok d).2 c hc).1
   have hrow : Rel1 σ2 (.slice (some ⟨g, 0, none⟩) d.length cap) (.lst .any 7 (rowsM d)) := by
    refine Rel1.lst .any 7 (rowsM d) _ _ cap g 0 (fun i j => (cur[i * 7 + j]?).getD undef) (by rw [rowsM_len]) hcap (fun _ => rfl) (fun i c hc => hok c (List.mem_of_getElem? hc)) (fun i j hi hj => ?_) (fun i j c a hc ha => ?_) trivial
    ·rw [hσ2]
     simp only [if_pos, Nat.zero_add]
     have : i * 7 + j < cur.size := by
      have : (i + 1) * 7 ≤ cap * 7 := Nat.mul_le_mul_right 7 (by omega)
      omega
     rw [Array.getElem?_eq_getElem this]
     rfl
    ·have hi : i < d.length := by have := (List.getElem?_eq_some_iff.1 hc).1; rw [rowsM_len] at this; exact this
     have hcl := hok c (List.mem_of_getElem? hc)
     have hj : j < 7 := by have := (List.getElem?_eq_some_iff.1 ha).1; omega
     have hfa : (rowsM d).flatten[i * 7 + j]? = some a := by
      have h8 := flatten_drop (esz := 7) (rows := rowsM d) i hok
      have h9 : (rowsM d).drop i = c :: (rowsM d).drop (i + 1) := drop_at hc
      rw [← List.getElem?_drop, ← h8, h9, List.flatten_cons, List.getElem?_append_left (by omega)]
      exact ha
     obtain ⟨u, hu, hr⟩ := hrel.at_ hfa
     rw [List.getElem?_take] at hu
     split at hu
     ·have hu : cur[i * 7 + j]? = some u := by simpa using hu
      rw [hu]
      exact hr.mono hle
     ·cases hu
   exact RelL.cons (.int _ _) (RelL.cons (.bool _) (RelL.cons (.int _ _) (RelL.cons (.str _) (RelL.cons (nl 6 _ _) (RelL.cons hrow RelL.nil)))))
abbrev chC (nm ver : ByteArray) (v : V) : List AV := [.str nm, .str ver, .int .i64 v.kind, .bool v.b, .int .i64 v.n, .str v.s, .lst .any 6 (rowsV v.l), .lst .any 7 (rowsM v.m), .lst .nil 2 [], .lst .nil 1 [], .raw (.map none)]
abbrev chS (c : Nat) (nm ver : ByteArray) (v : V) : List (Nat × List AV) := [(c, chC nm ver v)]
def kNm : ByteArray := ⟨#[110, 97, 109, 101]⟩
def kVer : ByteArray := ⟨#[118, 101, 114, 115, 105, 111, 110]⟩
def mvK (key : ByteArray) (v : V) : V := (mfind key v.m).getD V.null
def headBad (v : V) : Bool := !decide ((mvK kNm v).kind = 3) || !decide ((mvK kVer v).kind = 3) || !bareB (mvK kNm v).s || decide ((mvK kVer v).s = ⟨#[]⟩) || decide (256 < (mvK kNm v).s.size + (mvK kVer v).s.size)
def headP (nm ver s : ByteArray) : ByteArray × ByteArray × Int := if (parseL s).2 ≠ 0 then (nm, ver, (parseL s).2) else if headBad (parseL s).1 = true then (nm, ver, 25) else ((mvK kNm (parseL s).1).s, (mvK kVer (parseL s).1).s, 0)
def ownV (v0 : V) (s : ByteArray) : V × Int := if (parseL s).2 ≠ 0 then (v0, (parseL s).2) else if (parseL s).1.kind = 0 then (v0, 0) else if (parseL s).1.kind ≠ 5 then (v0, 8) else ((parseL s).1, 0)
theorem mvK_good {v : V} (h : v.good) (hz : v.size ≤ 4096) (key : ByteArray) : (mvK key v).s.size ≤ 65536 := by
 unfold mvK
 cases hf : mfind key v.m with
 | none => show (V.null).s.size ≤ _; decide
 | some x =>
  have hm := mfind_in hf
  exact text_size ((V.good_eq _).1 (good_key h hm).2).2.1
set_option maxHeartbeats 4000000 in
theorem head_m (nm ver s : ByteArray) (v0 : V) : MS Tryz.prog 26 (chS 2000000 nm ver v0) [.np 2000000 0, .str s] (chS 2000000 (headP nm ver s).1 (headP nm ver s).2.1 v0) (.int .i64 (headP nm ver s).2.2) := by
 generalize hR : headP nm ver s = R
 unfold headP at hR
 have hp := parse_a s
 obtain ⟨hg, hz⟩ := parse_good s
 generalize parseL s = P at *
 obtain ⟨v, e⟩ := P
 dsimp only at hR hp hg hz
 have hG1 := treeGet_o v kNm hg.ord (by omega)
 have hG2 := treeGet_o v kVer hg.ord (by omega)
 have z1 := mvK_good hg hz kNm
 have z2 := mvK_good hg hz kVer
 have hB := bare_a (mvK kNm v).s (by omega)
 unfold headBad at hR
 unfold mvK at hR z1 z2 hB
 generalize (mfind kNm v.m).getD V.null = x at *
 generalize (mfind kVer v.m).getD V.null = y at *
 refine MS.enter Tryz.func26 a_chart_Chart_head_ok a_chart_Chart_head_cb (by rfl) (by rfl) fun E hE => ?_
 show AK _ _ _ [.c b_chart_Chart_head] _ _
 rw [b_chart_Chart_head]
 refine kW ?_
 refine kQ [.v (.tup [(vA (v)), .int .i64 e])] ?_
 refine kW ?_
 refine kC (fun hb => ?_) fun hb => ?_
 ·have h1 : e ≠ 0 := by simpa using hb
  rw [if_pos h1] at hR
  subst hR
  refine kW ?_
  exact AK.ret ⟨⟨_, rfl, rfl⟩, ⟨_, rfl, rfl⟩, trivial⟩
 have h1 : ¬ e ≠ 0 := by simpa using hb
 rw [if_neg h1] at hR
 clear hb
 refine kW ?_
 refine kP [.v (.tup [(vA (x)), .bool (mfind kNm v.m).isSome])] ?_ ?_
 ·((repeat' apply And.intro) <;> first | exact kD | (intro hgd; refine ⟨?_, kG⟩; (repeat' apply And.intro) <;> first | exact kD | skip) | skip)
  all_goals exact hG1
 refine kW ?_
 refine kP [.v (.tup [(vA (y)), .bool (mfind kVer v.m).isSome])] ?_ ?_
 ·((repeat' apply And.intro) <;> first | exact kD | (intro hgd; refine ⟨?_, kG⟩; (repeat' apply And.intro) <;> first | exact kD | skip) | skip)
  all_goals exact hG2
 refine kW ?_
 refine kQ [.v (.bool (bareB x.s))] ?_
 have e3 : IntKind.i64.wrap ((x.s.size : Int) + (y.s.size : Int)) = ((x.s.size + y.s.size : Nat) : Int) := by
  rw [wrap_in (by omega) (by omega)]
  omega
 have e4 : decide (((x.s.size + y.s.size : Nat) : Int) > 256) = decide (256 < x.s.size + y.s.size) := by
  rw [Bool.eq_iff_iff, decide_eq_true_iff, decide_eq_true_iff]
  omega
 rw [e3, e4]
 refine kC (fun hb => ?_) fun hb => ?_
 ·have hb2 : (!decide (x.kind = 3) || !decide (y.kind = 3) || !bareB x.s || decide (y.s = ⟨#[]⟩) || decide (256 < x.s.size + y.s.size)) = true := by
   rw [← hb]
  rw [if_pos hb2] at hR
  subst hR
  refine kW ?_
  exact AK.ret ⟨⟨_, rfl, rfl⟩, ⟨_, rfl, rfl⟩, trivial⟩
 have hb2 : (!decide (x.kind = 3) || !decide (y.kind = 3) || !bareB x.s || decide (y.s = ⟨#[]⟩) || decide (256 < x.s.size + y.s.size)) = false := by
  rw [← hb]
 rw [if_neg (by rw [hb2]; simp)] at hR
 subst hR
 clear hb
 refine kW ?_
 refine AK.weak (Weak.introN (L := [(0, .np 2000000 0), (7, .ptr 7 0), (9, .ptr 9 0)]) (BL := [(7, (vC (x)), false), (9, (vC (y)), false), (2000000, chC nm ver v0, false)]) ⟨kI, kI, kI, trivial⟩ ⟨kJ, kJ, kJ, trivial⟩ rfl rfl ⟨rfl, trivial⟩) ?_
 refine AK.regaE fw0 [] (frOf []) ⟨boxOf [(2000000, chC x.s y.s v0, false)], fun _ => 0⟩ ?_ ?_
 ·(repeat' (first | exact trivial | apply And.intro))
  all_goals exact Weak.introN (L := []) trivial ⟨kJ, trivial⟩ rfl rfl ⟨rfl, trivial⟩
 refine kW ?_
 exact AK.ret ⟨⟨_, rfl, rfl⟩, ⟨_, rfl, rfl⟩, trivial⟩
theorem own_m (nm ver s : ByteArray) (v0 : V) : MS Tryz.prog 27 (chS 2000000 nm ver v0) [.np 2000000 0, .str s] (chS 2000000 nm ver (ownV v0 s).1) (.int .i64 (ownV v0 s).2) := by
 generalize hR : ownV v0 s = R
 unfold ownV at hR
 have hp := parse_a s
 generalize parseL s = P at *
 obtain ⟨v, e⟩ := P
 dsimp only at hR hp
 refine MS.enter Tryz.func27 a_chart_Chart_own_ok a_chart_Chart_own_cb (by rfl) (by rfl) fun E hE => ?_
 show AK _ _ _ [.c b_chart_Chart_own] _ _
 rw [b_chart_Chart_own]
 refine kW ?_
 refine kQ [.v (.tup [(vA (v)), .int .i64 e])] ?_
 refine kW ?_
 refine kC (fun hb => ?_) fun hb => ?_
 ·have h1 : e ≠ 0 := by simpa using hb
  rw [if_pos h1] at hR
  subst hR
  refine kW ?_
  exact AK.ret ⟨⟨_, rfl, rfl⟩, ⟨_, rfl, rfl⟩, trivial⟩
 have h1 : ¬ e ≠ 0 := by simpa using hb
 rw [if_neg h1] at hR
 clear hb
 refine kW ?_
 refine kC (fun hb => ?_) fun hb => ?_
 ·have h2 : v.kind = 0 := by simpa using hb
  rw [if_pos h2] at hR
  subst hR
  refine kW ?_
  exact AK.ret ⟨⟨_, rfl, rfl⟩, ⟨_, rfl, rfl⟩, trivial⟩
 have h2 : ¬ v.kind = 0 := by simpa using hb
 rw [if_neg h2] at hR
 clear hb
 refine kW ?_
 refine kC (fun hb => ?_) fun hb => ?_
 ·have h3 : v.kind ≠ 5 := by simpa using hb
  rw [if_pos h3] at hR
  subst hR
  refine kW ?_
  exact AK.ret ⟨⟨_, rfl, rfl⟩, ⟨_, rfl, rfl⟩, trivial⟩
 have h3 : ¬ v.kind ≠ 5 := by simpa using hb
 rw [if_neg h3] at hR
 subst hR
 clear hb
 refine kW ?_
 exact AK.ret ⟨⟨_, rfl, rfl⟩, ⟨_, rfl, rfl⟩, trivial⟩
def abN : ByteArray := ⟨#[67, 104, 97, 114, 116, 46, 121, 97, 109, 108]⟩
def vaN : ByteArray := ⟨#[118, 97, 108, 117, 101, 115, 46, 121, 97, 109, 108]⟩
def abT : ByteArray := ⟨#[110, 97, 109, 101, 58, 32, 97, 10, 118, 101, 114, 115, 105, 111, 110, 58, 32, 98, 10]⟩
def twoF (T : ByteArray) : List Fl := [(abN, abT), (vaN, T)]
theorem abT_head : headP ⟨#[]⟩ ⟨#[]⟩ abT = (⟨#[97]⟩, ⟨#[98]⟩, 0) := by kernel_rfl
theorem abN_ok : nameC abN = true := by decide +kernel
theorem vaN_ok : nameC vaN = true := by decide +kernel
theorem two_ne : (decide (abN = vaN)) = false := by decide +kernel
theorem twoF_files (T : ByteArray) : filesP (twoF T) = if 65536 < T.size then ([], vaN, 6) else (twoF T, ⟨#[]⟩, 0) := by
 have h1 : fileE [] (abN, abT) = 0 := by
  unfold fileE
  rw [if_neg (by rw [abN_ok]; simp), if_neg (by show ¬ 65536 < abT.size; decide), if_neg (by simp)]
 have h2 : fileE [(abN, abT)] (vaN, T) = if 65536 < T.size then 6 else 0 := by
  unfold fileE
  rw [if_neg (by rw [vaN_ok]; simp)]
  dsimp only
  split
  ·rfl
  ·rw [if_neg]
   rw [List.any_cons, List.any_nil, Bool.or_false, two_ne]
   simp
 have h3 : filesE [] (twoF T) = if 65536 < T.size then (vaN, 6) else (⟨#[]⟩, 0) := by
  unfold twoF
  rw [filesE, h1, if_neg (by simp), List.nil_append, filesE, h2]
  split
  ·rw [if_pos (by simp)]
  ·rw [if_neg (by simp), filesE]
 have h4 : sortF (twoF T) = twoF T := by
  unfold twoF sortF
  rw [List.foldl_cons, List.foldl_cons, List.foldl_nil, insF, insF, if_pos (show Op.bytesLess abN.toList vaN.toList = true by decide +kernel), insF]
 unfold filesP
 rw [if_neg (by show ¬ 32 < 2; decide), h3, h4]
 split
 ·rw [if_pos (by dsimp only; decide)]
 ·rw [if_neg (by dsimp only; decide)]
def rhoH (i : Nat) : Nat := if i = 2000000 then 23 else if i = 23 then 2000000 else i
theorem rhoH_inj (i j : Nat) (h : rhoH i = rhoH j) : i = j := by
 unfold rhoH at h
 repeat' split at h
 all_goals omega
theorem rhoH_mp (i : Nat) : isMp (rhoH i) = isMp i := by
 unfold rhoH
 repeat' split
 all_goals first | (subst_vars; rfl) | rfl
def twoJ (T : ByteArray) : Nat → List AV
 | 0 => chC ⟨#[]⟩ ⟨#[]⟩ (vMap [])
 | 1 => chC ⟨#[97]⟩ ⟨#[98]⟩ (vMap [])
 | _ => chC ⟨#[97]⟩ ⟨#[98]⟩ (ownV (vMap []) T).1
theorem two_at (T : ByteArray) : (rowsF (twoF T))[0]? = some [.str abN, .str abT] ∧ (rowsF (twoF T))[1]? = some [.str vaN, .str T] := ⟨rfl, rfl⟩
def twoR (T : ByteArray) : Option (ByteArray × Int) := if 65536 < T.size then some (vaN, 6) else if (ownV (vMap []) T).2 ≠ 0 then some (vaN, (ownV (vMap []) T).2) else none
def twoS (T : ByteArray) : List (Nat × List AV) := match twoR T with
 | some _ => []
 | none => chS 23 ⟨#[97]⟩ ⟨#[98]⟩ (ownV (vMap []) T).1
def twoA (T : ByteArray) : AV := match twoR T with
 | some (f, e) => .tup [.raw (.pointer none), .str f, .int .i64 e]
 | none => .tup [.np 23 0, .str ⟨#[]⟩, .int .i64 0]
set_option maxHeartbeats 4000000 in
theorem newTwo_m (T : ByteArray) : MS Tryz.prog 8 [] [.lst .any 2 (rowsF (twoF T))] (twoS T) (twoA T) := by
 have hF := files_a (twoF T) (by show 2 ≤ _; omega) (fun p hp => by
  unfold twoF at hp
  rcases List.mem_cons.1 hp with rfl | hp
  ·show abN.size ≤ _; decide
  ·rw [List.mem_singleton.1 hp]; show vaN.size ≤ _; decide)
 rw [twoF_files] at hF
 have hM : AC Tryz.prog 22 [.lst .any 7 []] ((vA ((vMap [])))) := treeMap_a [] (by decide +kernel)
 unfold twoS twoA twoR
 refine MS.enter Tryz.func8 a_chart_New_ok a_chart_New_cb (by rfl) (by rfl) fun E hE => ?_
 show AK _ _ _ [.c b_chart_New] _ _
 rw [b_chart_New]
 refine kW ?_
 by_cases hz : 65536 < T.size
 ·rw [if_pos hz] at hF ⊢
  refine kQ [.v (.tup [.lst .any 2 [], .str vaN, .int .i64 6])] ?_
  refine kW ?_
  refine kCt ?_
  refine kW ?_
  exact AK.ret ⟨⟨_, rfl, rfl⟩, trivial⟩
 rw [if_neg hz] at hF ⊢
 refine kQ [.v (.tup [.lst .any 2 (rowsF (twoF T)), .str ⟨#[]⟩, .int .i64 0])] ?_
 refine kW ?_
 refine kCf ?_
 refine kW ?_
 refine kQ [.v ((vA ((vMap []))))] ?_
 obtain ⟨t1, t2⟩ := two_at T
 have hH := (head_m ⟨#[]⟩ ⟨#[]⟩ abT (vMap [])).ren rhoH rhoH_inj rhoH_mp
 rw [abT_head] at hH
 have hO := (own_m ⟨#[97]⟩ ⟨#[98]⟩ T (vMap [])).ren rhoH rhoH_inj rhoH_mp
 refine kW ?_
 refine AK.loopI (fun k : Nat => (frOf [(7, .int .i64 0), (8, .ptr 23 0), (24, .lst .any 2 (rowsF (twoF T))), (25, .int .i64 2), (26, .int .i64 k)], ⟨boxOf [(23, twoJ T k, false)], fun _ => 0⟩)) (fun k => k ≤ 2 ∧ (k = 2 → (ownV (vMap []) T).2 = 0)) (fun k => 2 - k) 0 ⟨Nat.zero_le _, fun h => by cases h⟩ (Weak.introN ⟨kI, kI, kI, kI, kI, trivial⟩ ⟨⟨_, rfl, leL_of_eq rfl⟩, trivial⟩ rfl rfl trivial) fun k hk => ?_
 obtain ⟨hk, hk2⟩ := hk
 rcases k with _ | _ | k
 ·show AK _ _ _ _ (frOf _) _
  refine kW ?_
  refine kCt ?_
  refine kW ?_
  refine kP [.c [.str abN, .str abT]] ?_ ?_
  ·((repeat' apply And.intro) <;> first | exact kD | (intro hgd; refine ⟨?_, kG⟩; (repeat' apply And.intro) <;> first | exact kD | skip) | skip)
   all_goals exact t1
  refine kW ?_
  refine kC (fun hb => ?_) fun hb => ?_
  ·refine kW ?_
   refine kQ [.s [23] (chS 23 ⟨#[97]⟩ ⟨#[98]⟩ (vMap [])) (.int .i64 0)] ?_
   refine kW ?_
   refine kCf ?_
   refine kW ?_
   exact AK.lp ⟨1, ⟨by omega, fun h => by cases h⟩, Weak.introN ⟨kI, kI, kI, kI, kU, trivial⟩ ⟨⟨_, rfl, leL_of_eq rfl⟩, trivial⟩ rfl rfl trivial, by omega⟩
  ·exact absurd hb (by decide)
 ·show AK _ _ _ _ (frOf _) _
  refine kW ?_
  refine kCt ?_
  refine kW ?_
  refine kP [.c [.str vaN, .str T]] ?_ ?_
  ·((repeat' apply And.intro) <;> first | exact kD | (intro hgd; refine ⟨?_, kG⟩; (repeat' apply And.intro) <;> first | exact kD | skip) | skip)
   all_goals exact t2
  refine kW ?_
  refine kC (fun hb => ?_) fun hb => ?_
  ·exact absurd hb (by decide)
  refine kW ?_
  refine kC (fun hb => ?_) fun hb => ?_
  ·by_cases he : (ownV (vMap []) T).2 ≠ 0
   ·rw [if_pos he]
    refine kW ?_
    refine kQ [.s [23] (chS 23 ⟨#[97]⟩ ⟨#[98]⟩ (ownV (vMap []) T).1) (.int .i64 (ownV (vMap []) T).2)] ?_
    refine kW ?_
    refine kC (fun hb => ?_) fun hb => ?_
    ·refine kW ?_
     exact AK.ret ⟨⟨_, rfl, rfl⟩, trivial⟩
    ·exact absurd hb (by simpa using he)
   ·rw [if_neg he]
    have he0 : (ownV (vMap []) T).2 = 0 := by omega
    rw [he0] at hO
    refine kW ?_
    refine kQ [.s [23] (chS 23 ⟨#[97]⟩ ⟨#[98]⟩ (ownV (vMap []) T).1) (.int .i64 0)] ?_
    refine kW ?_
    refine kCf ?_
    refine kW ?_
    exact AK.lp ⟨2, ⟨by omega, fun _ => he0⟩, Weak.introN ⟨kI, kI, kI, kI, kU, trivial⟩ ⟨⟨_, rfl, leL_of_eq rfl⟩, trivial⟩ rfl rfl trivial, by omega⟩
  ·exact absurd hb (by decide)
 ·obtain rfl : k = 0 := by omega
  have he0 := hk2 rfl
  rw [if_neg (by omega)]
  show AK _ _ _ _ (frOf _) _
  refine kW ?_
  refine kCf ?_
  refine AK.exit rfl ?_
  refine kW ?_
  refine kC (fun hb => ?_) fun hb => ?_
  ·exact absurd hb (by decide)
  refine kW ?_
  exact AK.ret ⟨⟨_, rfl, rfl⟩, ⟨_, rfl, rfl⟩, trivial⟩
end Go.Proofs.YtnpkejnaeemgjaaGreatDoor
