/-
  tree.Drop at a map, walked.
-/
import Derived.Test.YtfnpjakekeojoaaGreatDoorDp3
namespace Go.Proofs.YtfnpjakekeojoaaGreatDoor
set_option linter.unusedSimpArgs false
set_option linter.unusedVariables false
open Go.RowKit

set_option maxRecDepth 100000 in
theorem delete_nil (key : ByteArray) : AC Tryz.prog 76 [.lst .any 7 [], .fn 77 [.ro [.str key]]] (.lst .any 7 []) := by
  refine ⟨by kernel_rfl, fun σ w vs hh hr hg => ?_⟩
  have hI := (indexP_a [] key (by simp)).run σ w vs hh hr hg
  obtain ⟨v1, v2, rfl, h1, h2⟩ := two_args hr
  have h1 : Rel1 σ v1 (.lst .any 7 []) := h1
  have h2 : Rel1 σ v2 (.fn 77 [.ro [.str key]]) := h2
  obtain ⟨A1, c1, b1, o1, n1, rfl, _⟩ := lst_cells h1
  cases h2 with
  | fn f cap us hl g hgg hrr =>
    go_enter Tryz.func76, Tryz.ntmps76
    go_wp2_with fail
    refine hI.mono ?_
    rintro e w1 ⟨σ', v, rfl, hx, hh', hb, hr'⟩
    have hr' : Rel1 σ' v (.int .i64 (-1)) := hr'
    cases hr'
    go_wp2
    go_ret
    exact ⟨σ', _, rfl, hx, hh', hb, h1.mono hx.1⟩
theorem dropNil_a (key : ByteArray) : AC Tryz.prog 55 [.agg [.int .i64 ((vMap [])).kind, .bool ((vMap [])).b, .int .i64 ((vMap [])).n, .str ((vMap [])).s, .lst .any 6 (rowsV ((vMap [])).l), .lst .any 7 (rowsM ((vMap [])).m)], .str key] (.agg [.int .i64 ((vMap [])).kind, .bool ((vMap [])).b, .int .i64 ((vMap [])).n, .str ((vMap [])).s, .lst .any 6 (rowsV ((vMap [])).l), .lst .any 7 (rowsM ((vMap [])).m)]) := by
  have h := delete_nil key
  have hC := clone_ok (vMap []) (by rw [vMap_size]; simp [sizeM])
  refine AC.enter Tryz.func55 a_tree_Drop_ok a_tree_Drop_cb (by rfl) fun E hE => ?_
  show AK _ _ _ [.c b_tree_Drop] _ _
  rw [b_tree_Drop]
  (repeat (first | apply kS | apply kB | apply kL | apply kN | (refine kR follows_any [] (by rfl) ?_ ?_; first | exact kT1 | exact kT2 | exact kT3 | exact kT4)))
  refine kR follows_any [.v (.agg [.int .i64 ((vMap [])).kind, .bool ((vMap [])).b, .int .i64 ((vMap [])).n, .str ((vMap [])).s, .lst .any 6 (rowsV ((vMap [])).l), .lst .any 7 (rowsM ((vMap [])).m)])] (by rfl) ?_ ?_
  · ((repeat' apply And.intro) <;> first | trivial | omega | (simp only [List.length_nil, List.length_cons]; omega) | (intro hgd; first | (rw [hgd]; rfl) | (refine ⟨?_, by repeat (first | exact trivial | refine ⟨hgd, ?_⟩)⟩; (repeat' apply And.intro) <;> first | trivial | omega | (intro h2; rw [hgd, h2]; rfl) | skip)) | skip)
  (repeat (first | apply kS | apply kB | apply kL | apply kN | (refine kR follows_any [] (by rfl) ?_ ?_; first | exact kT1 | exact kT2 | exact kT3 | exact kT4)))
  refine kR follows_any [.v (.lst .any 7 [])] (by rfl) ?_ ?_
  · ((repeat' apply And.intro) <;> first | trivial | omega | (simp only [List.length_nil, List.length_cons]; omega) | (intro hgd; first | (rw [hgd]; rfl) | (refine ⟨?_, by repeat (first | exact trivial | refine ⟨hgd, ?_⟩)⟩; (repeat' apply And.intro) <;> first | trivial | omega | (intro h2; rw [hgd, h2]; rfl) | skip)) | skip)
  (repeat (first | apply kS | apply kB | apply kL | apply kN | (refine kR follows_any [] (by rfl) ?_ ?_; first | exact kT1 | exact kT2 | exact kT3 | exact kT4)))
  refine AK.ret ⟨_, rfl, ?_⟩
  rfl
end Go.Proofs.YtfnpjakekeojoaaGreatDoor
/-
  tree.Drop at a map that isn't empty, walked.
-/
namespace Go.Proofs.YtfnpjakekeojoaaGreatDoor
set_option linter.unusedSimpArgs false
set_option linter.unusedVariables false
open Go.RowKit

/-- what tree.Drop hands back: a map whose row is its own -/
def DropW (σ : Sg) (m : List (ByteArray × V)) (w : World) (e : Ending) (w' : World) : Prop :=
  ∃ σ' g cap A c0, e = .returned (.agg #[.int .i64 5, .bool false, .int .i64 0, .string ⟨#[]⟩, .slice A 0 c0, .slice (some ⟨g, 0, none⟩) m.length cap]) ∧ Ext σ σ' w.heap.size ∧ Holds σ' w' ∧ Below w.heap.size w w' ∧ w.heap.size ≤ g ∧ m.length ≤ cap ∧ (∀ j, σ' g j = none) ∧
    ∃ ty cur, w'.heap[g]? = some (.cells cur ty (0, 0)) ∧ cur.size = cap * 7 ∧ RelL σ' (cur.toList.take (m.length * 7)) (rowsM m).flatten
set_option maxHeartbeats 4000000 in
set_option maxRecDepth 100000 in
theorem drop_any (m : List (ByteArray × V)) (key : ByteArray) (hne : m ≠ []) (hri : Rises m) (hsz : sizeM m ≤ 100000000) {σ : Sg} {w : World} {A1 A2 : Option Addr} {c1 c2 : Nat} (hh : Holds σ w) (hg : GW w) (hr : RelP σ (.agg #[.int .i64 5, .bool false, .int .i64 0, .string ⟨#[]⟩, .slice A1 0 c1, .slice A2 m.length c2]) (.agg [.int .i64 ((vMap m)).kind, .bool ((vMap m)).b, .int .i64 ((vMap m)).n, .str ((vMap m)).s, .lst .any 6 (rowsV ((vMap m)).l), .lst .any 7 (rowsM ((vMap m)).m)])) :
    Calls Tryz.prog 55 #[.agg #[.int .i64 5, .bool false, .int .i64 0, .string ⟨#[]⟩, .slice A1 0 c1, .slice A2 m.length c2], .string key] w (DropW σ (fdrop key m) w) := by
  have hbA : Below w.heap.size w (((w.alloc (.cells #[.int .i64 5, .bool false, .int .i64 0, .string ⟨#[]⟩, .slice A1 0 c1, .slice A2 m.length c2] 25)).alloc (.cells #[.string key] 9)).alloc (.cells #[.int .i64 0, .bool false, .int .i64 0, .string ⟨#[]⟩, .slice none 0 0, .slice none 0 0] 25)) := (((Below.refl _ _).alloc (Nat.le_refl _) _).alloc (by simp) _).alloc (by simp; omega) _
  have hkA : Blk (((w.alloc (.cells #[.int .i64 5, .bool false, .int .i64 0, .string ⟨#[]⟩, .slice A1 0 c1, .slice A2 m.length c2] 25)).alloc (.cells #[.string key] 9)).alloc (.cells #[.int .i64 0, .bool false, .int .i64 0, .string ⟨#[]⟩, .slice none 0 0, .slice none 0 0] 25)) (w.heap.size + 1) 9 #[.string key] := (Blk.new _ _ _ (by simp)).alloc _
  have hvA : Blk (((w.alloc (.cells #[.int .i64 5, .bool false, .int .i64 0, .string ⟨#[]⟩, .slice A1 0 c1, .slice A2 m.length c2] 25)).alloc (.cells #[.string key] 9)).alloc (.cells #[.int .i64 0, .bool false, .int .i64 0, .string ⟨#[]⟩, .slice none 0 0, .slice none 0 0] 25)) w.heap.size 25 #[.int .i64 5, .bool false, .int .i64 0, .string ⟨#[]⟩, .slice A1 0 c1, .slice A2 m.length c2] := ((Blk.new _ _ _ rfl).alloc _).alloc _
  have hoA : Blk (((w.alloc (.cells #[.int .i64 5, .bool false, .int .i64 0, .string ⟨#[]⟩, .slice A1 0 c1, .slice A2 m.length c2] 25)).alloc (.cells #[.string key] 9)).alloc (.cells #[.int .i64 0, .bool false, .int .i64 0, .string ⟨#[]⟩, .slice none 0 0, .slice none 0 0] 25)) (w.heap.size + 2) 25 #[.int .i64 0, .bool false, .int .i64 0, .string ⟨#[]⟩, .slice none 0 0, .slice none 0 0] := Blk.new _ _ _ (by simp)
  have hzA : (((w.alloc (.cells #[.int .i64 5, .bool false, .int .i64 0, .string ⟨#[]⟩, .slice A1 0 c1, .slice A2 m.length c2] 25)).alloc (.cells #[.string key] 9)).alloc (.cells #[.int .i64 0, .bool false, .int .i64 0, .string ⟨#[]⟩, .slice none 0 0, .slice none 0 0] 25)).heap.size = w.heap.size + 3 := by simp
  have HA := Lib.hid hbA
  have HKA := Lib.hid hkA
  have HVA := Lib.hid hvA
  have HOA := Lib.hid hoA
  have HZA := Lib.hid hzA
  have HH := Lib.hid hh
  have HG := Lib.hid hg
  have HR := Lib.hid hr
  clear hbA hkA hvA hoA hzA hh hg hr
  go_enter Tryz.func55, Tryz.ntmps55
  go_wp2_with fail
  generalize ((w.alloc (.cells #[.int .i64 5, .bool false, .int .i64 0, .string ⟨#[]⟩, .slice A1 0 c1, .slice A2 m.length c2] 25)).alloc (.cells #[.string key] 9)).alloc (.cells #[.int .i64 0, .bool false, .int .i64 0, .string ⟨#[]⟩, .slice none 0 0, .slice none 0 0] 25) = wa at *
  have hhA : Holds σ wa := fun b q v hv => (HA.out.cell (p := ⟨b, q, none⟩) (World.block_lt_of_cell? w _ (HH.out _ _ _ hv))).trans (HH.out _ _ _ hv)
  refine (clone_fresh m hne (by omega) hhA HR.out (HG.out.below HA.out)).mono ?_
  rintro e w2 ⟨σ', g, cap, A, c0, rfl, hext, hh2, hb2, hgge, hrow⟩
  have hsz3 : wa.heap.size = w.heap.size + 3 := HZA.out
  have hlt3 : w.heap.size + 3 ≤ w2.heap.size := by rw [← hsz3]; exact hb2.size
  have HV2 := Lib.hid (HVA.out.below hb2 (by omega))
  have HO2 := Lib.hid (HOA.out.below hb2 (by omega))
  have HK2 := Lib.hid (HKA.out.below hb2 (by omega))
  have HE := Lib.hid hext
  have HH2 := Lib.hid hh2
  have HB2 := Lib.hid hb2
  have HGG := Lib.hid hgge
  have HRW := Lib.hid hrow
  clear hext hh2 hb2 hgge hrow hhA
  have k5 : (w2.setRow w.heap.size #[.int .i64 5, .bool false, .int .i64 0, .string ⟨#[]⟩, .slice A 0 c0, .slice (some ⟨g, 0, none⟩) m.length cap]).cell? ⟨w.heap.size, 5, none⟩ = some (.slice (some ⟨g, 0, none⟩) m.length cap) := (HV2.out.set #[.int .i64 5, .bool false, .int .i64 0, .string ⟨#[]⟩, .slice A 0 c0, .slice (some ⟨g, 0, none⟩) m.length cap]).cell 5
  go_wp2_with ((with_reducible refine wpList_store_row 2 6 25 (w.heap.size) 25 #[.int .i64 5, .bool false, .int .i64 0, .string ⟨#[]⟩, .slice A1 0 c1, .slice A2 m.length c2] #[.int .i64 5, .bool false, .int .i64 0, .string ⟨#[]⟩, .slice A 0 c0, .slice (some ⟨g, 0, none⟩) m.length cap] ?_ ?_ ?_ ?_ ?_ ?_ ?_); rfl; rfl; exact HV2.out; rfl; exact (show ∀ u ∈ [Value.int .i64 5, .bool false, .int .i64 0, .string ⟨#[]⟩, .slice A 0 c0, .slice (some ⟨g, 0, none⟩) m.length cap], u.oneCell' = true by simp [Value.oneCell']); kernel_rfl)
  have hgne : g ≠ w.heap.size := by have := HGG.out; omega
  have hbw2 : Below w.heap.size w w2 := HA.out.trans (HB2.out.mono (by omega))
  have hbw3 : Below w.heap.size w (w2.setRow w.heap.size #[.int .i64 5, .bool false, .int .i64 0, .string ⟨#[]⟩, .slice A 0 c0, .slice (some ⟨g, 0, none⟩) m.length cap]) := below_setRow hbw2 (Nat.le_refl _) _
  have hsn : ∀ o, σ' w.heap.size o = none := fun o => by
    rw [HE.out.2 _ _ (by omega)]
    cases hs : σ w.heap.size o with
    | none => rfl
    | some v => exact absurd (World.block_lt_of_cell? w _ (HH.out _ _ _ hs)) (by simp)
  have hh3 : Holds σ' (w2.setRow w.heap.size #[.int .i64 5, .bool false, .int .i64 0, .string ⟨#[]⟩, .slice A 0 c0, .slice (some ⟨g, 0, none⟩) m.length cap]) := fun b o v hv => by
    have hb : b ≠ w.heap.size := fun e => by rw [e, hsn] at hv; cases hv
    rw [← HH2.out _ _ _ hv]
    unfold World.cell?
    rw [setRow_other w2 w.heap.size b _ hb]
  have hk3 : (w2.setRow w.heap.size #[.int .i64 5, .bool false, .int .i64 0, .string ⟨#[]⟩, .slice A 0 c0, .slice (some ⟨g, 0, none⟩) m.length cap]).cell? ⟨w.heap.size + 1, 0, none⟩ = some (.string key) := (HK2.out.setOther (by omega) _).cell 0
  have hrow3 : FRowW σ' (w2.setRow w.heap.size #[.int .i64 5, .bool false, .int .i64 0, .string ⟨#[]⟩, .slice A 0 c0, .slice (some ⟨g, 0, none⟩) m.length cap]) g cap 7 (rowsM m) := HRW.out.on (fun _ _ _ h => h) (setRow_other _ _ _ _ hgne) HRW.out.free
  refine (delete_any m key hri (by omega) hh3 (HG.out.below hbw3) hrow3 hk3 (by have := HGG.out; omega)).mono ?_
  rintro e w4 ⟨rfl, hbb, ty, cur, hgc, hcs, hcap, hrel⟩
  have hz4 : w2.heap.size ≤ w4.heap.size := by have := hbb.size; rw [setRow_size] at this; exact this
  have hv4 : Blk w4 w.heap.size 25 #[.int .i64 5, .bool false, .int .i64 0, .string ⟨#[]⟩, .slice A 0 c0, .slice (some ⟨g, 0, none⟩) m.length cap] := (hbb.block _ (by rw [setRow_size]; omega) (Ne.symm hgne)).trans (HV2.out.set _)
  have ho4 : Blk w4 (w.heap.size + 2) 25 #[.int .i64 0, .bool false, .int .i64 0, .string ⟨#[]⟩, .slice none 0 0, .slice none 0 0] := (hbb.block _ (by rw [setRow_size]; omega) (by have := HGG.out; omega)).trans (HO2.out.setOther (by omega) _)
  have k45 : w4.cell? ⟨w.heap.size, 5, none⟩ = some (.slice (some ⟨g, 0, none⟩) m.length cap) := hv4.cell 5
  have z45 := hv4.frozen 5
  have hv5 := hv4.setCell 5 (.slice (some ⟨g, 0, none⟩) (fdrop key m).length cap)
  have ho5 := ho4.far (p := ⟨w.heap.size, 5, none⟩) (by simp) (.slice (some ⟨g, 0, none⟩) (fdrop key m).length cap)
  have m0 : (w4.setCell ⟨w.heap.size, 5, none⟩ (.slice (some ⟨g, 0, none⟩) (fdrop key m).length cap)).cell? ⟨w.heap.size, 0, none⟩ = some (.int .i64 5) := hv5.cell 0
  have m1 : (w4.setCell ⟨w.heap.size, 5, none⟩ (.slice (some ⟨g, 0, none⟩) (fdrop key m).length cap)).cell? ⟨w.heap.size, 1, none⟩ = some (.bool false) := hv5.cell 1
  have m2 : (w4.setCell ⟨w.heap.size, 5, none⟩ (.slice (some ⟨g, 0, none⟩) (fdrop key m).length cap)).cell? ⟨w.heap.size, 2, none⟩ = some (.int .i64 0) := hv5.cell 2
  have m3 : (w4.setCell ⟨w.heap.size, 5, none⟩ (.slice (some ⟨g, 0, none⟩) (fdrop key m).length cap)).cell? ⟨w.heap.size, 3, none⟩ = some (.string ⟨#[]⟩) := hv5.cell 3
  have m4 : (w4.setCell ⟨w.heap.size, 5, none⟩ (.slice (some ⟨g, 0, none⟩) (fdrop key m).length cap)).cell? ⟨w.heap.size, 4, none⟩ = some (.slice A 0 c0) := hv5.cell 4
  have m5 : (w4.setCell ⟨w.heap.size, 5, none⟩ (.slice (some ⟨g, 0, none⟩) (fdrop key m).length cap)).cell? ⟨w.heap.size, 5, none⟩ = some (.slice (some ⟨g, 0, none⟩) (fdrop key m).length cap) := hv5.cell 5
  have HBB := Lib.hid hbb
  have HGC := Lib.hid hgc
  have HCS := Lib.hid hcs
  have HCP := Lib.hid hcap
  have HRL := Lib.hid hrel
  have HO5 := Lib.hid ho5
  clear hbb hgc hcs hcap hrel hv4 ho4 hv5 ho5 hh3 hk3 hrow3 hbw3 k5
  have hlz : w.heap.size < w4.heap.size := by omega
  go_wp2_with ((with_reducible refine wpList_store_row 4 12 25 (w.heap.size + 2) 25 #[.int .i64 0, .bool false, .int .i64 0, .string ⟨#[]⟩, .slice none 0 0, .slice none 0 0] #[.int .i64 5, .bool false, .int .i64 0, .string ⟨#[]⟩, .slice A 0 c0, .slice (some ⟨g, 0, none⟩) (fdrop key m).length cap] ?_ ?_ ?_ ?_ ?_ ?_ ?_); rfl; rfl; exact HO5.out; rfl; exact (show ∀ u ∈ [Value.int .i64 5, .bool false, .int .i64 0, .string ⟨#[]⟩, .slice A 0 c0, .slice (some ⟨g, 0, none⟩) (fdrop key m).length cap], u.oneCell' = true by simp [Value.oneCell']); kernel_rfl)
  refine bodyPost_ret (results_cell_row rfl _ _ _ _ _ _ _ rfl (HO5.out.set _) Tryz.underlying25 rfl (by kernel_rfl)) rfl ?_
  have hgg := HGG.out
  have heap : ∀ k, k ≠ w.heap.size → k ≠ w.heap.size + 2 → ((w4.setCell ⟨w.heap.size, 5, none⟩ (.slice (some ⟨g, 0, none⟩) (fdrop key m).length cap)).setRow (w.heap.size + 2) #[.int .i64 5, .bool false, .int .i64 0, .string ⟨#[]⟩, .slice A 0 c0, .slice (some ⟨g, 0, none⟩) (fdrop key m).length cap]).heap[k]? = w4.heap[k]? := fun k h1 h2 =>
    (setRow_other _ _ _ _ h2).trans (Below.heap_setCell w4 ⟨w.heap.size, 5, none⟩ _ k h1)
  have hno : ∀ b o v, σ' b o = some v → b ≠ w.heap.size ∧ b ≠ w.heap.size + 2 ∧ b ≠ g := fun b o v hv => by
    refine ⟨fun e => ?_, fun e => ?_, fun e => ?_⟩
    · rw [e, hsn] at hv; cases hv
    · rw [e, HE.out.2 _ _ (by omega)] at hv
      exact absurd (World.block_lt_of_cell? w _ (HH.out _ _ _ hv)) (by simp)
    · rw [e, HRW.out.free] at hv; cases hv
  refine ⟨σ', g, cap, A, c0, rfl, ⟨HE.out.1, fun b o hb => HE.out.2 b o (by omega)⟩, fun b o v hv => ?_, ?_, by omega, HCP.out, HRW.out.free, ty, cur, (heap g (by omega) (by omega)).trans HGC.out, HCS.out, HRL.out⟩
  · obtain ⟨n1, n2, n3⟩ := hno b o v hv
    have hv2 := HH2.out _ _ _ hv
    have hbl := World.block_lt_of_cell? w2 _ hv2
    rw [← hv2]
    unfold World.cell?
    rw [heap b n1 n2, HBB.out.block b (by rw [setRow_size]; exact hbl) n3, setRow_other _ _ _ _ n1]
  · have hos : w4.os = w.os := HBB.out.os.trans hbw2.os
    have hta : w4.tape = w.tape := HBB.out.tape.trans hbw2.tape
    have hou : w4.output = w.output := HBB.out.output.trans hbw2.output
    have hb4 : Below w.heap.size w w4 := ⟨hos, hta, hou, by omega, fun k hk => (HBB.out.block k (by rw [setRow_size]; omega) (by omega)).trans ((setRow_other _ _ _ _ (by omega)).trans (hbw2.block k hk))⟩
    exact below_setRow (hb4.setCell (Nat.le_refl _) _) (by omega) _
theorem drop_ok : DropOk := fun m key hri hsz => by
  by_cases hm : m = []
  · subst hm; exact dropNil_a key
  · refine ⟨by kernel_rfl, fun σ w vs hh hr hg => ?_⟩
    obtain ⟨v1, v2, rfl, h1, h2⟩ := two_args hr
    have h2 : Rel1 σ v2 (.str key) := h2
    cases h2
    have h1' := h1
    obtain ⟨cs, rfl, hcs⟩ := h1
    have hlen := hcs.1
    obtain ⟨x1, x2, x3, x4, x5, x6, rfl⟩ : ∃ a b c d e f, cs = [a, b, c, d, e, f] := by
      rcases cs with _ | ⟨a, _ | ⟨b, _ | ⟨c, _ | ⟨d, _ | ⟨e, _ | ⟨f, _ | ⟨g, l⟩⟩⟩⟩⟩⟩⟩ <;> simp at hlen
      exact ⟨a, b, c, d, e, f, rfl⟩
    have r0 := hcs.2 0 x1 (.int .i64 5) rfl rfl
    have r1 := hcs.2 1 x2 (.bool false) rfl rfl
    have r2 := hcs.2 2 x3 (.int .i64 0) rfl rfl
    have r3 := hcs.2 3 x4 (.str ⟨#[]⟩) rfl rfl
    have r4 := hcs.2 4 x5 (.lst .any 6 []) rfl rfl
    have r5 := hcs.2 5 x6 (.lst .any 7 (rowsM m)) rfl rfl
    cases r0; cases r1; cases r2; cases r3
    obtain ⟨A1, c1, b1, o1, n1, rfl, _⟩ := lst_cells r4
    obtain ⟨A2, c2, b2, o2, n2, rfl, _⟩ := lst_cells r5
    rw [rowsM_len] at *
    refine (drop_any m key hm hri (by omega) hh hg h1').mono ?_
    rintro e w' ⟨σ', g, cap, A, c0, rfl, hext, hh', hb, hgge, hcap, hfree, ty, cur, hgc, hcsz, hrel⟩
    generalize fdrop key m = d at *
    obtain ⟨σ2, hσ2⟩ : ∃ σ2 : Sg, σ2 = fun b o => if b = g then cur[o]? else σ' b o := ⟨_, rfl⟩
    have hle : σ'.le σ2 := fun b o v hv => by
      rw [hσ2]
      simp only
      split
      · rename_i e; subst e; rw [hfree] at hv; cases hv
      · exact hv
    have hh2 : Holds σ2 w' := fun b o v hv => by
      rw [hσ2] at hv
      simp only at hv
      split at hv
      · rename_i e; subst e
        rw [cell_of_row w' b o cur ty (0, 0) hgc]; exact hv
      · exact hh' _ _ _ hv
    refine ⟨σ2, _, rfl, ⟨fun b o v hv => hle _ _ _ (hext.1 _ _ _ hv), fun b o hb => ?_⟩, hh2, hb, ?_⟩
    · rw [hσ2]
      simp only
      rw [if_neg (by omega), hext.2 b o hb]
    · refine ⟨_, rfl, ?_⟩
      have nl : ∀ (esz : Nat) (A : Option Addr) (c : Nat), Rel1 σ2 (.slice A 0 c) (.lst .any esz []) := fun esz A c => .lst .any esz [] A 0 c 0 0 (fun _ _ => undef) rfl (by omega) (fun h => by omega) (fun i c h => by simp at h) (fun i j h => by omega) (fun i j c a h => by simp at h) trivial
      have hok := fun c hc => ((rowsM_ok d).2 c hc).1
      have hrow : Rel1 σ2 (.slice (some ⟨g, 0, none⟩) d.length cap) (.lst .any 7 (rowsM d)) := by
        refine Rel1.lst .any 7 (rowsM d) _ _ cap g 0 (fun i j => (cur[i * 7 + j]?).getD undef) (by rw [rowsM_len]) hcap (fun _ => rfl) (fun i c hc => hok c (List.mem_of_getElem? hc)) (fun i j hi hj => ?_) (fun i j c a hc ha => ?_) trivial
        · rw [hσ2]
          simp only [if_pos, Nat.zero_add]
          have : i * 7 + j < cur.size := by
            have : (i + 1) * 7 ≤ cap * 7 := Nat.mul_le_mul_right 7 (by omega)
            omega
          rw [Array.getElem?_eq_getElem this]
          rfl
        · have hi : i < d.length := by have := (List.getElem?_eq_some_iff.1 hc).1; rw [rowsM_len] at this; exact this
          have hcl := hok c (List.mem_of_getElem? hc)
          have hj : j < 7 := by have := (List.getElem?_eq_some_iff.1 ha).1; omega
          have hfa : (rowsM d).flatten[i * 7 + j]? = some a := by
            have h8 := flatten_drop (esz := 7) (rows := rowsM d) i hok
            have h9 : (rowsM d).drop i = c :: (rowsM d).drop (i + 1) := drop_at hc
            rw [← List.getElem?_drop, ← h8, h9, List.flatten_cons, List.getElem?_append_left (by omega)]
            exact ha
          obtain ⟨u, hu, hr⟩ := hrel.at_ hfa
          rw [List.getElem?_take] at hu
          split at hu
          · have hu : cur[i * 7 + j]? = some u := by simpa using hu
            rw [hu]
            exact hr.mono hle
          · cases hu
      exact RelL.cons (.int _ _) (RelL.cons (.bool _) (RelL.cons (.int _ _) (RelL.cons (.str _) (RelL.cons (nl 6 _ _) (RelL.cons hrow RelL.nil)))))
end Go.Proofs.YtfnpjakekeojoaaGreatDoor
