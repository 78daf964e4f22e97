/-
  The walks of the functions on revisions, sixth part: Rising, Find, the document's example.
-/
import Derived.Test.YtehmenkofhdmfaaHistE
namespace Go.Proofs.Ytehmenkofhdmfaa
set_option linter.unusedSimpArgs false
set_option linter.unusedVariables false
open Go.RowKit

def risingFrom : Int → List Rec → Bool
  | _, [] => true
  | p, r :: rest => decide (1 ≤ r.rev ∧ r.rev ≤ 1000000 ∧ p < r.rev) && risingFrom r.rev rest
def rising (l : List Rec) : Bool := risingFrom 0 l && decide (l.length ≤ 60)

set_option maxHeartbeats 4000000 in
theorem rising_any (v : Value) (l : List Rec) (w : World) (hs : Sl 7 RecR w w.heap.size v l) (hl : l.length ≤ 2000000000000) :
    Calls Try.prog 8 #[v] w fun e w' => e = .returned (.bool (rising l)) ∧ Below w.heap.size w w' := by
  obtain ⟨A, cap, rfl, hc, hs⟩ := hs
  go_enter Try.func8, Try.ntmps8
  go_wp2
  go_loopw [7] (fun i wr => ∃ (k : Nat) (p : Int), k ≤ l.length ∧ i = .int .i64 k ∧ (k = 0 ∧ p = 0 ∨ ∃ r, 0 < k ∧ l[k - 1]? = some r ∧ p = r.rev) ∧ Hid (rising l = (risingFrom p (l.drop k) && decide (l.length ≤ 60))) ∧ Below w.heap.size w wr) (fun i _ => l.length - (intOf i).toNat)
  case atStart => exact ⟨0, 0, by omega, rfl, .inl ⟨rfl, rfl⟩, Lib.hid rfl, Below.refl _ _⟩
  case round =>
    obtain ⟨k, p, hk, rfl, hp, hw, hB⟩ := hrel
    have HB := Lib.hid hB
    by_cases hlt : k < l.length
    · have hs2 := hs.below hB
      obtain ⟨b, o, x, hA, hb, hg, c0, c1, c2, c3, c4, c5, c6⟩ := recs_at hs2 hlt
      have HD := Lib.hid (drop_at hg)
      have HG := Lib.hid hg
      by_cases h1 : x.rev < 1
      · subst hA
        have H0 := Lib.hid (show rising l = false by rw [hw.out, HD.out, risingFrom]; simp; omega)
        clear hp hs hs2 hg hB
        go_wp2
        go_quiet (fail)
        go_wp2
        go_ret
        exact ⟨ret_bool H0.out.symm, below_drewN (HB.out.alloc HB.out.size _) _⟩
      · by_cases h2 : 1000000 < x.rev
        · subst hA
          have H0 := Lib.hid (show rising l = false by rw [hw.out, HD.out, risingFrom]; simp; omega)
          have h1' : decide (x.rev < 1) = false := by simp; omega
          clear hp hs hs2 hg hB
          go_wp2
          go_quiet (fail)
          go_wp2
          go_ret
          exact ⟨ret_bool H0.out.symm, below_drewN (HB.out.alloc HB.out.size _) _⟩
        · have h1' : decide (x.rev < 1) = false := by simp; omega
          have h2' : decide (1000000 < x.rev) = false := by simp; omega
          have hnx : (k + 1 = 0 ∧ x.rev = 0 ∨ ∃ r, 0 < k + 1 ∧ l[k + 1 - 1]? = some r ∧ x.rev = r.rev) := .inr ⟨x, by omega, hg, rfl⟩
          have HN := Lib.hid hnx
          clear hnx
          rcases hp with ⟨rfl, rfl⟩ | ⟨r, hk0, hr, rfl⟩
          · subst hA
            have H0 := Lib.hid (show rising l = (risingFrom x.rev (l.drop (0 + 1)) && decide (l.length ≤ 60)) by rw [hw.out, HD.out, risingFrom, show decide (1 ≤ x.rev ∧ x.rev ≤ 1000000 ∧ 0 < x.rev) = true by simp; omega]; rfl)
            clear hs hs2 hg hB
            simp only [Nat.zero_mul, Nat.add_zero] at c0 c1 c2 c3 c4 c5 c6
            go_wp2
            go_quiet (fail)
            go_wp2
            go_roundw
            case rel => exact ⟨0 + 1, x.rev, by omega, by go_num, HN.out, H0, below_drewN (HB.out.alloc HB.out.size _) _⟩
            case measure => simp [intOf]; omega
          · obtain ⟨j, rfl⟩ : ∃ j, k = j + 1 := ⟨k - 1, by omega⟩
            obtain ⟨b', o', x', hA', hb', hg', d0, d1, d2, d3, d4, d5, d6⟩ := recs_at hs2 (show j < l.length by omega)
            obtain rfl : r = x' := by
              have e : j + 1 - 1 = j := by omega
              rw [e, hg'] at hr; injection hr with hr; exact hr.symm
            rw [hA] at hA'
            injection hA' with hA'
            injection hA' with hA1 hA2
            subst hA1 hA2 hA
            have hb'' : b < wr.heap.size := by have := HB.out.size; omega
            have k1 := IntWalk.i64_in ((((j + 1 : Nat) : Int)) - 1) (by omega)
            clear hs hs2 hg hg' hB hr
            by_cases h3 : x.rev ≤ r.rev
            · have H0 := Lib.hid (show rising l = false by rw [hw.out, HD.out, risingFrom]; simp; omega)
              have h0' : decide (0 < ((j + 1 : Nat) : Int)) = true := by simp
              go_wp2
              go_quiet (fail)
              go_wp2
              go_ret
              exact ⟨ret_bool H0.out.symm, below_drewN (HB.out.alloc HB.out.size _) _⟩
            · have H0 := Lib.hid (show rising l = (risingFrom x.rev (l.drop (j + 1 + 1)) && decide (l.length ≤ 60)) by rw [hw.out, HD.out, risingFrom, show decide (1 ≤ x.rev ∧ x.rev ≤ 1000000 ∧ r.rev < x.rev) = true by simp; omega]; rfl)
              have h0' : decide (0 < ((j + 1 : Nat) : Int)) = true := by simp
              have h3' : decide (x.rev ≤ r.rev) = false := by simp; omega
              go_wp2
              go_quiet (fail)
              go_wp2
              go_roundw
              case rel => exact ⟨j + 1 + 1, x.rev, by omega, by go_num, HN.out, H0, below_drewN (HB.out.alloc HB.out.size _) _⟩
              case measure => simp [intOf]; omega
    · go_wp2
      go_ret
      have : k = l.length := by omega
      subst this
      exact ⟨ret_bool (by rw [hw.out, List.drop_length, risingFrom]; simp; omega), hB⟩
end Go.Proofs.Ytehmenkofhdmfaa
