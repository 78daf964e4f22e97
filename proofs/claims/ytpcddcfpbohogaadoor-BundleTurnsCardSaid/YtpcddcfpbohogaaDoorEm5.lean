/-
  yaml.Emit, walked: the contract.
-/
import Derived.Test.YtpcddcfpbohogaaDoorEm4
namespace Go.Proofs.YtpcddcfpbohogaaDoor
set_option linter.unusedSimpArgs false
set_option linter.unusedVariables false
open Go.RowKit

set_option maxHeartbeats 1000000 in
set_option maxRecDepth 100000 in
theorem emitTop_a {pr : V → ByteArray} {Gd : V → Prop} (hP : ∀ v, Gd v → v.leaf = true → AC Tryd.prog 54 [.agg [.int .i64 (v).kind, .bool (v).b, .int .i64 (v).n, .str (v).s, .lst .any 6 (rowsV (v).l), .lst .any 7 (rowsM (v).m)]] (.str (pr v))) (hS : ∀ v, Gd v → (∀ x ∈ v.l, Gd x) ∧ ∀ p ∈ v.m, Gd p.2 ∧ p.1.size ≤ 1000000)
    (v : V) (hG : Gd v) (hv : v.size ≤ 400000) (hl : (v.emit wordB pr).size ≤ 1000000000000) : AC Tryd.prog 35 [.agg [.int .i64 (v).kind, .bool (v).b, .int .i64 (v).n, .str (v).s, .lst .any 6 (rowsV (v).l), .lst .any 7 (rowsM (v).m)]] (.str (v.emit wordB pr)) := by
  refine ⟨by kernel_rfl, fun σ w vs hh hr hg => ?_⟩
  obtain ⟨u, rfl⟩ := List.length_eq_one_iff.1 hr.1
  have hu : RelP σ u (.agg [.int .i64 (v).kind, .bool (v).b, .int .i64 (v).n, .str (v).s, .lst .any 6 (rowsV (v).l), .lst .any 7 (rowsM (v).m)]) := hr.2 0 u _ rfl rfl
  suffices h : Calls Tryd.prog 35 #[u] w fun e w' => e = .returned (.string (v.emit wordB pr)) ∧ Below w.heap.size w w' by
    refine h.mono ?_
    rintro e w' ⟨rfl, hb⟩
    exact ⟨σ, _, rfl, Ext.refl _ _, fun b q v hv => (hb.cell (p := ⟨b, q, none⟩) (World.block_lt_of_cell? w _ (hh _ _ _ hv))).trans (hh _ _ _ hv), hb, .str _⟩
  obtain ⟨A, C, c, d, rfl, hA, hC⟩ := val_open hu
  have HU := Lib.hid hu
  have HH := Lib.hid (show ∀ w', Below w.heap.size w w' → Holds σ w' from fun w' hb b q v hv => (hb.cell (p := ⟨b, q, none⟩) (World.block_lt_of_cell? w _ (hh _ _ _ hv))).trans (hh _ _ _ hv))
  have HG := Lib.hid (show ∀ w', Below w.heap.size w w' → GW w' from fun w' hb => hg.below hb)
  have hPr : v.leaf = true → ∀ w', Below w.heap.size w w' → Calls Tryd.prog 54 #[.agg #[.int .i64 (v).kind, .bool (v).b, .int .i64 (v).n, .string (v).s, .slice A (v).l.length c, .slice C (v).m.length d]] w' fun e w2 => e = .returned (.string (pr v)) ∧ Below w'.heap.size w' w2 := fun hlf w' hbb => ac_str (hP v hG hlf) (vs := [.agg #[.int .i64 (v).kind, .bool (v).b, .int .i64 (v).n, .string (v).s, .slice A (v).l.length c, .slice C (v).m.length d]]) (HH.out w' hbb) ⟨rfl, fun j v a hv ha => by
    rcases j with _ | j <;> simp at hv ha
    subst hv ha
    exact HU.out⟩ (HG.out w' hbb)
  have hE := fun w2 bs (hb : Below w.heap.size w w2) (hI : IsB w.heap.size (w.heap.size + 1) bs w2) (hlen : bs.length + (v.lay wordB pr 0).size ≤ 1000000000000) => emit_any hP hS v.size v 0 σ w2 (.agg #[.int .i64 (v).kind, .bool (v).b, .int .i64 (v).n, .string (v).s, .slice A (v).l.length c, .slice C (v).m.length d]) w.heap.size (w.heap.size + 1) bs (Nat.le_refl _) hG (by omega) (fun w' hb' => HH.out w' (hb.trans hb')) (fun w' hb' => HG.out w' (hb.trans hb')) HU.out hI hb.size hlen
  have HPr := Lib.hid hPr
  have HE := Lib.hid hE
  have hlc := (show (v.l.length : Int) + (v.m.length : Int) ≤ 1000000 by have := v.size_eq; have := len_le_sizeL v.l; have := len_le_sizeM v.m; omega)
  have hB1 : Below w.heap.size w (w.alloc (Obj.cells #[.int .i64 (v).kind, .bool (v).b, .int .i64 (v).n, .string (v).s, .slice A (v).l.length c, .slice C (v).m.length d] 60)) := (Below.refl _ _).alloc (Nat.le_refl _) _
  have hB2 : Below w.heap.size w ((w.alloc (Obj.cells #[.int .i64 (v).kind, .bool (v).b, .int .i64 (v).n, .string (v).s, .slice A (v).l.length c, .slice C (v).m.length d] 60)).alloc (Obj.cells #[.pointer none, .slice none 0 0] 85)) := hB1.alloc hB1.size _
  clear hPr hE hh hr hg hu hA hC hP hS
  cases hlf : v.leaf with
  | true =>
    have hq : (wrap64 ((v.l.length : Int) + (v.m.length : Int)) == 0) = true := by
      have := leaf_iff.1 hlf
      rw [show ((v.l.length : Int) + (v.m.length : Int)) = 0 by omega]; simp [wrap64]
    have ht : v.emit wordB pr = pr v ++ ⟨#[10]⟩ := by rw [V.emit, if_pos hlf]
    rw [ht] at hl ⊢
    have hz : (pr v ++ ⟨#[10]⟩ : ByteArray).size = (pr v).size + 1 := by rw [ByteArray.size_append]; rfl
    clear hlc
    go_enter Tryd.func35, Tryd.ntmps35
    go_wp2_with (go_at_call 54; refine (HPr.out hlf _ hB2).mono ?_; rintro e w2 ⟨rfl, hb2⟩)
    go_ret
    exact ⟨rfl, hB2.trans (hb2.mono hB2.size)⟩
  | false =>
    have hq : (wrap64 ((v.l.length : Int) + (v.m.length : Int)) == 0) = false := by
      have : ¬ v.l.length + v.m.length = 0 := fun h => by rw [leaf_iff.2 h] at hlf; cases hlf
      rw [beq_eq_false_iff_ne, wrap64]; omega
    have ht : v.emit wordB pr = v.lay wordB pr 0 := by rw [V.emit, if_neg (by rw [hlf]; simp)]
    rw [ht] at hl ⊢
    clear hlc
    go_enter Tryd.func35, Tryd.ntmps35
    go_wp2_with fail
    have hI : IsB w.heap.size (w.heap.size + 1) [] ((w.alloc (Obj.cells #[.int .i64 (v).kind, .bool (v).b, .int .i64 (v).n, .string (v).s, .slice A (v).l.length c, .slice C (v).m.length d] 60)).alloc (Obj.cells #[.pointer none, .slice none 0 0] 85)) := by
      refine .inl ⟨by omega, .slice none 0 0, heap_at (by simp), ⟨by simp, .inl ⟨rfl, rfl⟩⟩, by simp [Value.ownBlock]⟩
    refine (HE.out _ [] hB2 hI (by simpa using hl)).mono ?_
    rintro e w2 ⟨rfl, h2, b2, k2⟩
    go_wp2_with fail
    refine (Tryd.Builder_String_any_f w.heap.size (w.heap.size + 1) (v.lay wordB pr 0).data.toList w2 h2 (Nat.le_trans hB2.size b2.size)).mono ?_
    rintro e w3 ⟨rfl, b3⟩
    go_wp2
    go_ret
    exact ⟨rfl, (hB2.trans b2).trans b3.2⟩
end Go.Proofs.YtpcddcfpbohogaaDoor
