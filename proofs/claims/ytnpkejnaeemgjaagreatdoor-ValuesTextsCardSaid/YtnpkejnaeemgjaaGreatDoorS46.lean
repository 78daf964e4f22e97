/-
  The texts that the claim wants, one behind the other: part 46.
-/
import Derived.Test.YtnpkejnaeemgjaaGreatDoorS45
set_option linter.unusedSimpArgs false
set_option linter.unusedVariables false
namespace Go.Proofs.YtnpkejnaeemgjaaGreatDoor
open Go.RowKit
def CloneEnd (m : List (ByteArray × V)) (e : Exit) (f : Fr) (s : St) : Prop :=
 e = .ret ∧ ∃ cap cs, RowCs 7 (rowsM m) cap cs ∧ f 2 = some (.ptr 2 0) ∧ s.box 2 = some ([.int .i64 5, .bool false, .int .i64 0, .str ⟨#[]⟩, .lst .any 6 [], .sli 1000010 7 (rowsM m).length cap], false) ∧ s.box 1000010 = some (cs, false)
theorem clone_walk (m : List (ByteArray × V)) (hne : m ≠ []) (hb0 : sizeM m ≤ 1000000000) (E : Env) (hE : E.n = a_tree_Clone.n) : AK Tryz.prog E (CloneEnd m) [.c a_tree_Clone.body] (argFr 0 [(vA ((vMap m)))]) ⟨fun _ => none, fun _ => 0⟩ := by
 have hlm := len_le_sizeM m
 show AK _ _ _ [.c b_tree_Clone] _ _
 rw [b_tree_Clone]
 have h2 : 0 < (rowsM m).length := by rw [rowsM_len]; exact List.length_pos_iff.2 hne
 obtain ⟨v, hv⟩ : ∃ v, v = vMap m := ⟨_, rfl⟩
 have hvl : v.l = [] := by rw [hv]; rfl
 have hvm : v.m = m := by rw [hv]; rfl
 refine kW ?_
 refine kP [.v (.lst .any 6 []), .f 7 (rowsM m)] ?_ ?_
 ·((repeat' apply And.intro) <;> first | exact kD | (intro hgd; refine ⟨?_, kG⟩; (repeat' apply And.intro) <;> first | exact kD | skip) | skip)
  ·exact cloneV_nil
  ·exact cloneP_mf _ h2 (by rw [show (vMap m).m = m from rfl, rowsM_len]; omega)
 (repeat (first | apply AK.seq | apply AK.block | apply AK.blk | apply AK.skip))
 refine AK.open2 10 1000010 rfl (by omega) rfl (rowsM_ok m) fun cap2 cs2 hr2 => ?_
 refine kW ?_
 refine AK.loopI (fun i : Nat => (frOf [(1, .ptr 1 0), (2, .ptr 2 0), (15, .int .i64 0), (16, .int .i64 i)], ⟨boxOf [(1, [.int .i64 5, .bool false, .int .i64 0, .str ⟨#[]⟩, .lst .any 6 [], .sli 1000010 7 (rowsM m).length cap2], false), (2, [.int .i64 0, .bool false, .int .i64 0, .str ⟨#[]⟩, .lst .nil 6 [], .lst .nil 7 []], false), (1000010, cs2, false)], fun _ => 0⟩))
  (fun i => i ≤ 0) (fun i => 0 - i) 0 (by omega) (Weak.intro ⟨kI, kI, kI, kI, trivial⟩ ⟨kJ, kJ, ⟨_, rfl, leL_of_eq rfl⟩, trivial⟩ rfl rfl (by exact ⟨hr2.un, trivial⟩)) fun k hk => ?_
 refine kW ?_
 refine kC (fun hb => ?_) fun hb => ?_
 ·exfalso
  have : (k : Int) < 0 := by simpa using hb
  omega
 ·refine AK.exit rfl ?_
  (repeat (first | apply AK.seq | apply AK.block | apply AK.blk | apply AK.skip))
  refine kW ?_
  refine AK.loopI (fun i : Nat => (frOf [(1, .ptr 1 0), (2, .ptr 2 0), (32, .int .i64 (rowsM m).length), (33, .int .i64 i)], ⟨boxOf [(1, [.int .i64 5, .bool false, .int .i64 0, .str ⟨#[]⟩, .lst .any 6 [], .sli 1000010 7 (rowsM m).length cap2], false), (2, [.int .i64 0, .bool false, .int .i64 0, .str ⟨#[]⟩, .lst .nil 6 [], .lst .nil 7 []], false), (1000010, cs2, false)], fun _ => 0⟩))
   (fun i => i ≤ m.length) (fun i => m.length - i) 0 (by omega) (Weak.intro ⟨kI, kI, kI, kI, trivial⟩ ⟨kJ, kJ, kJ, trivial⟩ rfl rfl (by exact ⟨hr2.un, trivial⟩)) fun k hk => ?_
  refine kW ?_
  refine kC (fun hb => ?_) fun hb => ?_
  ·have hlt : k < m.length := by simpa [rowsM_len] using hb
   obtain ⟨⟨y, x⟩, hg⟩ : ∃ x, m[k]? = some x := ⟨_, List.getElem?_eq_getElem hlt⟩
   have hx := mem_sizeM (List.mem_of_getElem? hg)
   simp only at hx
   have hrow := hr2.row (rowsM_at hg)
   have hlt2 : (k : Int) < (rowsM m).length := by rw [rowsM_len]; omega
   refine kW ?_
   refine kP [.c (.str y :: (vC (x))), .v ((vA (x))), .c (.str y :: (vC (x)))] ?_ ?_
   ·((repeat' apply And.intro) <;> first | exact kD | (intro hgd; refine ⟨?_, kG⟩; (repeat' apply And.intro) <;> first | exact kD | skip) | skip)
    ·exact hrow.2
    ·exact clone_ok x (by omega)
    ·exact hrow.2
   refine kW ?_
   refine AK.lp ⟨k + 1, by omega, Weak.intro ⟨kI, kI, kI, kU, trivial⟩ ⟨kJ, kJ, ⟨_, rfl, leL_of_eq ?_⟩, trivial⟩ rfl rfl (by exact ⟨hr2.un, trivial⟩), by omega⟩
   ·have := mid_eq cs2 (k * 7) 7
    rw [hrow.2] at this
    exact this
  ·refine AK.exit rfl ?_
   (repeat (first | apply AK.seq | apply AK.block | apply AK.blk | apply AK.skip))
   refine kW ?_
   refine AK.ret ⟨rfl, cap2, cs2, hr2, rfl, rfl, rfl⟩
end Go.Proofs.YtnpkejnaeemgjaaGreatDoor
/-
 tree.Clone of a map: what is answered has a row of its own.
-/
namespace Go.Proofs.YtnpkejnaeemgjaaGreatDoor
open Go.RowKit
theorem clone_fresh (m : List (ByteArray × V)) (hne : m ≠ []) (hb0 : sizeM m ≤ 1000000000) {σ : Sg} {w : World} {v : Value} (hh : Holds σ w) (hr : RelP σ v ((vA ((vMap m))))) (hg : GW w) :
  Calls Tryz.prog 59 #[v] w fun e w' => ∃ σ' g cap A c0, e = .returned (.agg #[.int .i64 5, .bool false, .int .i64 0, .string ⟨#[]⟩, .slice A 0 c0, .slice (some ⟨g, 0, none⟩) m.length cap]) ∧ Ext σ σ' w.heap.size ∧ Holds σ' w' ∧ Below w.heap.size w w' ∧ w.heap.size ≤ g ∧ FRowW σ' w' g cap 7 (rowsM m) := by
 refine calls_raw (vs := [v]) Tryz.func59 a_tree_Clone_ok (by rfl) (Q := CloneEnd m) (clone_walk m hne hb0) hh ⟨rfl, fun j u a hu ha => ?_⟩ hg ?_
 ·rcases j with _ | j <;> simp at hu ha
  subst hu ha
  exact hr
 ·rintro E G f s a w' e rfl hex hbe hwn hC ⟨rfl, cap, cs, hrc, hf2, hb2, hb3⟩ hres
  refine ⟨.inr rfl, ?_⟩
  obtain ⟨g2, hB2, hp2, _⟩ := hC.slots 2 _ hf2
  obtain ⟨g2', hB2', q1, ty, us, hgu, hrl, htg, hfz⟩ := hC.box 2 _ _ hb2
  rw [hB2] at hB2'
  cases hB2'
  have hgu := hgu.cells rfl
  obtain ⟨g3, hB3, q3, ty3, us3, hg3, hrl3, htg3, hfz3⟩ := hC.box 1000010 _ _ hb3
  have hg3 := hg3.cells rfl
  have hul := hrl.1
  obtain ⟨us, rfl⟩ : ∃ l : List Value, us = l.toArray := ⟨us.toList, by simp⟩
  obtain ⟨us3, rfl⟩ : ∃ l : List Value, us3 = l.toArray := ⟨us3.toList, by simp⟩
  simp only [List.map_cons, List.map_nil] at hrl htg hrl3 htg3 hul
  obtain ⟨x1, x2, x3, x4, x5, x6, rfl⟩ : ∃ a b c d e f, us = [a, b, c, d, e, f] := by
   rcases us with _ | ⟨a, _ | ⟨b, _ | ⟨c, _ | ⟨d, _ | ⟨e, _ | ⟨f, _ | ⟨g, l⟩⟩⟩⟩⟩⟩⟩ <;> simp at hul
   exact ⟨a, b, c, d, e, f, rfl⟩
  have r0 := hrl.2 0 x1 (.int .i64 5) rfl rfl
  have r1 := hrl.2 1 x2 (.bool false) rfl rfl
  have r2 := hrl.2 2 x3 (.int .i64 0) rfl rfl
  have r3 := hrl.2 3 x4 (.str ⟨#[]⟩) rfl rfl
  have r4 := hrl.2 4 x5 (.lst .any 6 []) rfl rfl
  cases r0; cases r1; cases r2; cases r3
  obtain ⟨A1, c1, b1, o1, n1, rfl, _⟩ := lst_cells r4
  obtain ⟨_, hcap, g6, rfl, hg6⟩ := htg 5 x6 (.sli 1000010 7 (rowsM m).length cap) rfl rfl
  have e6 := hg6 g3 hB3
  subst e6
  rw [rowsM_len] at *
  refine ⟨_, ?_, G.σ, g3, cap, A1, c1, rfl, hex, hC.hold, hbe, hwn g3 q3, ?_⟩
  ·exact results_cell_row rfl _ _ _ _ _ _ _ hp2 hgu Tryz.underlying25 rfl (by kernel_rfl)
  ·obtain ⟨sp, hsp⟩ := hrc.sp
   have hun := hrc.un
   have hlen := hrc.len
   have hfl := flatten_len (esz := 7) (rows := rowsM m) (fun c hc => ((rowsM_ok m).2 c hc).1)
   rw [rowsM_len] at hfl
   have hu3 : us3.length = cap * 7 := by have := hrl3.1; rw [List.length_map] at this; omega
   refine ⟨ty3, us3.toArray, hg3, by simpa using hu3, by rw [rowsM_len]; exact hcap, fun c hc => ((rowsM_ok m).2 c hc).1, ?_, fun u hu => hrl3.one u (by simpa using hu), by simpa using hfz3⟩
   rw [rowsM_len]
   refine ⟨?_, fun j u a hu ha => ?_⟩
   ·rw [hfl]
    simp only [List.length_take]
    omega
   ·have hj : j < m.length * 7 := by
     have := (List.getElem?_eq_some_iff.1 ha).1
     omega
    have hu' : us3[j]? = some u := by
     rw [List.getElem?_take, if_pos hj] at hu
     exact hu
    refine hrl3.2 j u a hu' ?_
    rw [hun, hsp, List.getElem?_append_left (by omega)]
    exact ha
end Go.Proofs.YtnpkejnaeemgjaaGreatDoor
