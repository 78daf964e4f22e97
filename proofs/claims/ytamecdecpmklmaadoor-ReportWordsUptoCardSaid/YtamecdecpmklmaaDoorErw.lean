/-
  report.Error, walked over the words that the package lays.
-/
import Derived.Test.YtamecdecpmklmaaDoorRp4
import Derived.Test.YtamecdecpmklmaaDoorFrame
namespace Go.Proofs.YtamecdecpmklmaaDoor
set_option linter.unusedSimpArgs false
set_option linter.unusedVariables false
open Go.RowKit

/-- the package's words, as its text lays them (the globals 0, 1, 2) -/
def LaidW (w : World) : Prop := (∀ j x, lowW[j]? = some x → w.cell? ⟨0, j, none⟩ = some (.string x)) ∧ (∀ j x, middleW[j]? = some x → w.cell? ⟨1, j, none⟩ = some (.string x)) ∧ (∀ j x, highW[j]? = some x → w.cell? ⟨2, j, none⟩ = some (.string x))
theorem getD_some {l : List ByteArray} {k : Nat} (h : k < l.length) : l[k]? = some (l.getD k otherW) := by rw [List.getD_eq_getElem?_getD, List.getElem?_eq_getElem h]; rfl
theorem error_any (e : Int) (w : World) (hw : LaidW w) (hi : e ≤ 9223372036854775807) : Calls Tryd.prog 5 #[.int .i64 e] w fun x w' => x = .returned (.string (errW e)) ∧ w' = w := by
  by_cases h1 : 0 ≤ e ∧ e ≤ 13
  · have t1 : (0 : Int) ≤ e := h1.1
    have t2 : e < 14 := by omega
    have hc := hw.1 e.toNat _ (getD_some (l := lowW) (by show e.toNat < 14; omega))
    have he : errW e = lowW.getD e.toNat otherW := by rw [errW, if_pos h1]
    rw [he]
    generalize lowW.getD e.toNat otherW = x at hc
    go_enter Tryd.func5, Tryd.ntmps5
    go_wp2
    go_ret
    exact ⟨rfl, rfl⟩
  · by_cases h2 : 20 ≤ e ∧ e ≤ 26
    · have t0 : (0 : Int) ≤ e := by omega
      have t1 : ¬ e < 14 := by omega
      have t3 : (20 : Int) ≤ e := h2.1
      have hwr : IntKind.i64.wrap (e - 20) = e - 20 := wrap_in (by omega) (by omega)
      have t4 : e - 20 < 7 := by omega
      have t5 : 0 ≤ e - 20 := by omega
      have hc := hw.2.1 (e - 20).toNat _ (getD_some (l := middleW) (by show (e - 20).toNat < 7; omega))
      have he : errW e = middleW.getD (e - 20).toNat otherW := by rw [errW, if_neg h1, if_pos h2]
      rw [he]
      generalize middleW.getD (e - 20).toNat otherW = x at hc
      go_enter Tryd.func5, Tryd.ntmps5
      go_wp2
      go_ret
      exact ⟨rfl, rfl⟩
    · by_cases h3 : 30 ≤ e ∧ e ≤ 35
      · have t0 : (0 : Int) ≤ e := by omega
        have t1 : ¬ e < 14 := by omega
        have t3 : (20 : Int) ≤ e := by omega
        have hwr : IntKind.i64.wrap (e - 20) = e - 20 := wrap_in (by omega) (by omega)
        have t4 : ¬ e - 20 < 7 := by omega
        have t6 : (30 : Int) ≤ e := h3.1
        have hwr2 : IntKind.i64.wrap (e - 30) = e - 30 := wrap_in (by omega) (by omega)
        have t7 : e - 30 < 6 := by omega
        have t8 : 0 ≤ e - 30 := by omega
        have hc := hw.2.2 (e - 30).toNat _ (getD_some (l := highW) (by show (e - 30).toNat < 6; omega))
        have he : errW e = highW.getD (e - 30).toNat otherW := by rw [errW, if_neg h1, if_neg h2, if_pos h3]
        rw [he]
        generalize highW.getD (e - 30).toNat otherW = x at hc
        go_enter Tryd.func5, Tryd.ntmps5
        go_wp2
        go_ret
        exact ⟨rfl, rfl⟩
      · have he : errW e = ⟨#[111, 116, 104, 101, 114]⟩ := by rw [errW, if_neg h1, if_neg h2, if_neg h3]; rfl
        rw [he]
        by_cases c1 : e < 20
        · have t3 : ¬ (20 : Int) ≤ e := by omega
          have t6 : ¬ (30 : Int) ≤ e := by omega
          by_cases c0 : 0 ≤ e
          · have t1 : ¬ e < 14 := by omega
            clear h1 h2 h3 he c1
            go_enter Tryd.func5, Tryd.ntmps5
            go_wp2
            go_ret
            exact ⟨rfl, rfl⟩
          · clear h1 h2 h3 he c1
            go_enter Tryd.func5, Tryd.ntmps5
            go_wp2
            go_ret
            exact ⟨rfl, rfl⟩
        · have t0 : (0 : Int) ≤ e := by omega
          have t1 : ¬ e < 14 := by omega
          have t3 : (20 : Int) ≤ e := by omega
          have hwr : IntKind.i64.wrap (e - 20) = e - 20 := wrap_in (by omega) (by omega)
          have t4 : ¬ e - 20 < 7 := by omega
          by_cases c2 : (30 : Int) ≤ e
          · have hwr2 : IntKind.i64.wrap (e - 30) = e - 30 := wrap_in (by omega) (by omega)
            have t7 : ¬ e - 30 < 6 := by omega
            clear h1 h2 h3 he c1
            go_enter Tryd.func5, Tryd.ntmps5
            go_wp2
            go_ret
            exact ⟨rfl, rfl⟩
          · clear h1 h2 h3 he c1
            go_enter Tryd.func5, Tryd.ntmps5
            go_wp2
            go_ret
            exact ⟨rfl, rfl⟩
end Go.Proofs.YtamecdecpmklmaaDoor
