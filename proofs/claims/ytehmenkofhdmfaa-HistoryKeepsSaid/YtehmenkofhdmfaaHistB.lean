/-
  The walks of the functions on revisions, second part: Base, Old, Find, and the document's.
-/
import Derived.Test.YtehmenkofhdmfaaHist
namespace Go.Proofs.Ytehmenkofhdmfaa
set_option linter.unusedSimpArgs false
set_option linter.unusedVariables false
open Go.RowKit

def base (l : List Rec) : Option Rec := (withS l [2, 3, 5]).filter fun r => r.st != 5

theorem lit235 (w : World) (e : TypeId) {k : Nat} (hk : w.heap.size = k) : Sl 1 IntR (w.alloc (.cells #[.int .i64 2, .int .i64 3, .int .i64 5] e)) (k + 1) (.slice (some ⟨k, 0, none⟩) 3 3) [2, 3, 5] :=
  Sl.lit (size := 1) (R := IntR) w e _ [2, 3, 5] hk rfl rfl (by decide) fun i x hi => by
    match i, hi with
    | 0, rfl => rfl
    | 1, rfl => rfl
    | 2, rfl => rfl

set_option maxHeartbeats 1000000 in
theorem base_any (v : Value) (l : List Rec) (w : World) (hs : Sl 7 RecR w w.heap.size v l) (hl : l.length ≤ 1000000) :
    Calls Try.prog 12 #[v] w fun e w' =>
      e = .returned (.tuple #[.agg #[.string ((base l).getD Rec.zero).rel, .int .i64 ((base l).getD Rec.zero).rev, .int .i64 ((base l).getD Rec.zero).st, .int .i64 ((base l).getD Rec.zero).cmd, .string ((base l).getD Rec.zero).ch, .string ((base l).getD Rec.zero).va, .string ((base l).getD Rec.zero).ma], .bool (base l).isSome]) ∧ Below w.heap.size w w' := by
  have HS := Lib.hid hs
  obtain ⟨A, cap, rfl, hc, hs⟩ := hs
  clear hs
  have hb0 : Below w.heap.size w ((w.alloc (.cells #[.string ⟨#[]⟩, .int .i64 0, .int .i64 0, .int .i64 0, .string ⟨#[]⟩, .string ⟨#[]⟩, .string ⟨#[]⟩] 29)).alloc (.cells #[.int .i64 2, .int .i64 3, .int .i64 5] 3)) := ((Below.refl _ _).alloc (Nat.le_refl _) _).alloc (by simp) _
  have HS2 := Lib.hid ((HS.out.below hb0).more hb0.size)
  have H3 := Lib.hid (lit235 (w.alloc (.cells #[.string ⟨#[]⟩, .int .i64 0, .int .i64 0, .int .i64 0, .string ⟨#[]⟩, .string ⟨#[]⟩, .string ⟨#[]⟩] 29)) 3 (k := w.heap.size + 1) (by simp))
  have HB := Lib.hid hb0
  clear hb0
  go_enter Try.func12, Try.ntmps12
  go_wp2_with fail
  refine (with_any _ _ l [2, 3, 5] _ HS2.out (H3.out.more (by simp)) hl (by decide)).mono ?_
  rintro e w1 ⟨rfl, hb⟩
  have HB' := Lib.hid (HB.out.trans (hb.mono HB.out.size))
  have HK := Lib.hid (((Blk.new w 29 #[.string ⟨#[]⟩, .int .i64 0, .int .i64 0, .int .i64 0, .string ⟨#[]⟩, .string ⟨#[]⟩, .string ⟨#[]⟩] rfl).alloc _).below hb (by simp; omega))
  have hsz := hb.size
  simp only [World.size_alloc] at hsz
  have hz0 : w.heap.size < w1.heap.size := by omega
  clear hb HS HS2 H3 HB hsz
  rcases hw : withS l [2, 3, 5] with _ | r
  · have h0 : base l = none := by rw [base, hw]; rfl
    have H0 := Lib.hid h0
    clear h0 hw
    simp only [Option.getD_none, Rec.zero, Option.isSome_none]
    go_wp2_with ((with_reducible refine wpList_store_row 2 19 29 (w.heap.size) 29 #[.string ⟨#[]⟩, .int .i64 0, .int .i64 0, .int .i64 0, .string ⟨#[]⟩, .string ⟨#[]⟩, .string ⟨#[]⟩] #[.string ⟨#[]⟩, .int .i64 0, .int .i64 0, .int .i64 0, .string ⟨#[]⟩, .string ⟨#[]⟩, .string ⟨#[]⟩] ?_ ?_ ?_ ?_ ?_ ?_ ?_); rfl; rfl; exact HK.out.alloc _; rfl; exact Rec.one0; kernel_rfl)
    refine bodyPost_ret (results_cell_tmp_row rfl _ _ _ _ _ _ rfl ((HK.out.alloc _).set _) Try.underlying29 rfl (by kernel_rfl)) rfl ⟨by rw [H0.out]; rfl, ?_⟩
    exact below_setRow (HB'.out.alloc (by omega) _) (Nat.le_refl _) _
  · have HW := Lib.hid hw
    clear hw
    simp only [Option.getD_some, Option.isSome_some]
    by_cases h5 : r.st = 5
    · have h0 : base l = none := by rw [base, HW.out]; simp [h5]
      have H0 := Lib.hid h0
      have h5' : (r.st == 5) = true := by simp [h5]
      clear h0 h5
      go_wp2_with ((with_reducible refine wpList_store_row 2 19 29 (w.heap.size) 29 #[.string ⟨#[]⟩, .int .i64 0, .int .i64 0, .int .i64 0, .string ⟨#[]⟩, .string ⟨#[]⟩, .string ⟨#[]⟩] #[.string ⟨#[]⟩, .int .i64 0, .int .i64 0, .int .i64 0, .string ⟨#[]⟩, .string ⟨#[]⟩, .string ⟨#[]⟩] ?_ ?_ ?_ ?_ ?_ ?_ ?_); rfl; rfl; exact HK.out.alloc _; rfl; exact Rec.one0; kernel_rfl)
      refine bodyPost_ret (results_cell_tmp_row rfl _ _ _ _ _ _ rfl ((HK.out.alloc _).set _) Try.underlying29 rfl (by kernel_rfl)) rfl ⟨by rw [H0.out]; rfl, ?_⟩
      exact below_setRow (HB'.out.alloc (by omega) _) (Nat.le_refl _) _
    · have h0 : base l = some r := by rw [base, HW.out]; simp [h5]
      have H0 := Lib.hid h0
      have h5' : (r.st == 5) = false := by simp [h5]
      clear h0 h5
      go_wp2_with ((with_reducible refine wpList_store_row 2 20 29 (w.heap.size) 29 #[.string ⟨#[]⟩, .int .i64 0, .int .i64 0, .int .i64 0, .string ⟨#[]⟩, .string ⟨#[]⟩, .string ⟨#[]⟩] #[.string (r).rel, .int .i64 (r).rev, .int .i64 (r).st, .int .i64 (r).cmd, .string (r).ch, .string (r).va, .string (r).ma] ?_ ?_ ?_ ?_ ?_ ?_ ?_); rfl; rfl; exact HK.out.alloc _; rfl; exact Rec.one r; kernel_rfl)
      refine bodyPost_ret (results_cell_tmp_row rfl _ _ _ _ _ _ rfl ((HK.out.alloc _).set _) Try.underlying29 rfl (by kernel_rfl)) rfl ⟨by rw [H0.out]; rfl, ?_⟩
      exact below_setRow (HB'.out.alloc (by omega) _) (Nat.le_refl _) _
end Go.Proofs.Ytehmenkofhdmfaa
