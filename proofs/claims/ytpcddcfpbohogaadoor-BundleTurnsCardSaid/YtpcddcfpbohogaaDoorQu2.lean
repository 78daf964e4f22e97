/-
  scalar.Quote, walked.
-/
import Derived.Test.YtpcddcfpbohogaaDoorQuP
import Derived.Test.YtpcddcfpbohogaaDoorChecked
import Derived.Test.YtpcddcfpbohogaaDoorShl
import Derived.Test.YtpcddcfpbohogaaDoorBld
import Derived.Test.YtpcddcfpbohogaaDoorFrame
namespace Go.Proofs.YtpcddcfpbohogaaDoor
set_option linter.unusedSimpArgs false
set_option linter.unusedVariables false
open Go.RowKit

theorem ba_list (a b : ByteArray) : (a ++ b).data.toList = a.data.toList ++ b.data.toList := by rw [ByteArray.data_append, Array.toList_append]
theorem cells_app (a b : ByteArray) : Lib.byteCells (a ++ b).data.toList = Lib.byteCells a.data.toList ++ Lib.byteCells b.data.toList := by
  rw [ba_list, Lib.byteCells, List.map_append]
  rfl
set_option maxRecDepth 100000 in
theorem quote_any (s : ByteArray) (hs : s.size ≤ 1000000) (w : World) : Calls Tryd.prog 75 #[.string s] w fun e w' => e = .returned (.string (quoteB s)) ∧ Below w.heap.size w w' := by
  go_enter Tryd.func75, Tryd.ntmps75
  go_wp2_with fail
  go_at_call 95
  refine (Tryd.writeByte_h w.heap.size w.heap.size [] 34 _ (Lib.fresh_isBuilder 85 5 w) (by simp) (by simp)).mono ?_
  rintro e w1 ⟨rfl, h1, b1⟩
  go_wp2_with fail
  have b1' : Below w.heap.size w w1 := ((Below.refl _ _).alloc (Nat.le_refl _) _).trans b1
  go_loopw [9] (fun i wr => ∃ k : Nat, k ≤ s.size ∧ i = .int .i64 k ∧ Lib.IsBuilder 85 5 w.heap.size w.heap.size (Lib.byteCells (quoteP s k).data.toList) wr ∧ Below w.heap.size w wr) (fun i _ => s.size - (intOf i).toNat)
  case atStart => exact ⟨0, by omega, rfl, .inr h1, b1'⟩
  case round =>
    obtain ⟨k, hk, rfl, hB, hW⟩ := hrel
    have hbs : (Lib.byteCells (quoteP s k).data.toList).length ≤ 1 + 2 * k := by
      have h1 : (Lib.byteCells (quoteP s k).data.toList).length = (quoteP s k).size := List.length_map _
      have := quoteP_size s k
      omega
    have hBw : w.heap.size ≤ wr.heap.size := hW.size
    have z2 : (ByteArray.mk #[92, 110]).size = 2 := rfl
    have z3 : (ByteArray.mk #[92, 116]).size = 2 := rfl
    by_cases hlt : k < s.size
    · have c256 : s[k].toNat < 256 := s[k].toNat_lt
      have hst : Lib.byteCells (quoteP s (k + 1)).data.toList = Lib.byteCells (quoteP s k).data.toList ++ Lib.byteCells (quoteC s[k]).data.toList := by rw [quoteP, byte_at hlt, cells_app]
      by_cases h10 : s[k].toNat = 10
      · have t1 : ((s[k].toNat : Int) == 10) = true := by rw [h10]; rfl
        have e2 : quoteC s[k] = ⟨#[92, 110]⟩ := by rw [show s[k] = 10 from UInt8.toNat_inj.1 h10]; rfl
        rw [e2] at hst
        clear h10
        go_wp2_with fail
        refine (Tryd.writeString_h w.heap.size w.heap.size _ ⟨#[92, 110]⟩ wr hB (by omega) hBw).mono ?_
        rintro e w2 ⟨rfl, h2, b2⟩
        go_wp2
        go_roundw
        case rel => exact ⟨k + 1, by omega, by go_num, .inr (by rw [hst]; exact h2), hW.trans b2⟩
        case measure => simp [intOf]; omega
      by_cases h9 : s[k].toNat = 9
      · have t1 : ((s[k].toNat : Int) == 10) = false := by rw [h9]; rfl
        have t2 : ((s[k].toNat : Int) == 9) = true := by rw [h9]; rfl
        have e2 : quoteC s[k] = ⟨#[92, 116]⟩ := by rw [show s[k] = 9 from UInt8.toNat_inj.1 h9]; rfl
        rw [e2] at hst
        clear h9 h10
        go_wp2_with fail
        refine (Tryd.writeString_h w.heap.size w.heap.size _ ⟨#[92, 116]⟩ wr hB (by omega) hBw).mono ?_
        rintro e w2 ⟨rfl, h2, b2⟩
        go_wp2
        go_roundw
        case rel => exact ⟨k + 1, by omega, by go_num, .inr (by rw [hst]; exact h2), hW.trans b2⟩
        case measure => simp [intOf]; omega
      have t1 : ((s[k].toNat : Int) == 10) = false := by simp; omega
      have t2 : ((s[k].toNat : Int) == 9) = false := by simp; omega
      have n10 : s[k] ≠ 10 := fun e => h10 (by rw [e]; rfl)
      have n9 : s[k] ≠ 9 := fun e => h9 (by rw [e]; rfl)
      clear h9 h10
      by_cases h34 : s[k].toNat = 34 ∨ s[k].toNat = 92
      · have e2 : quoteC s[k] = ⟨#[92, s[k]]⟩ := by rw [quoteC, if_neg n10, if_neg n9, if_pos (h34.imp UInt8.toNat_inj.1 UInt8.toNat_inj.1)]
        have hst2 : Lib.byteCells (quoteP s (k + 1)).data.toList = (Lib.byteCells (quoteP s k).data.toList ++ [.int .u8 92]) ++ [.int .u8 s[k].toNat] := by rw [hst, e2]; simp [Lib.byteCells]
        clear hst e2
        rcases h34 with h34 | h34
        · have t3 : ((s[k].toNat : Int) == 34) = true := by rw [h34]; rfl
          clear h34
          go_wp2_with fail
          refine (Tryd.writeByte_h w.heap.size w.heap.size _ 92 wr hB (by omega) hBw).mono ?_
          rintro e w2 ⟨rfl, h2, b2⟩
          go_wp2_with fail
          refine (Tryd.writeByte_h w.heap.size w.heap.size _ s[k].toNat w2 (.inr h2) (by rw [List.length_append, List.length_singleton]; omega) (hW.trans b2).size).mono ?_
          rintro e w3 ⟨rfl, h3, b3⟩
          go_wp2
          go_roundw
          case rel => exact ⟨k + 1, by omega, by go_num, .inr (by rw [hst2]; exact h3), (hW.trans b2).trans b3⟩
          case measure => simp [intOf]; omega
        · have t3 : ((s[k].toNat : Int) == 34) = false := by rw [h34]; rfl
          have t4 : ((s[k].toNat : Int) == 92) = true := by rw [h34]; rfl
          clear h34
          go_wp2_with fail
          refine (Tryd.writeByte_h w.heap.size w.heap.size _ 92 wr hB (by omega) hBw).mono ?_
          rintro e w2 ⟨rfl, h2, b2⟩
          go_wp2_with fail
          refine (Tryd.writeByte_h w.heap.size w.heap.size _ s[k].toNat w2 (.inr h2) (by rw [List.length_append, List.length_singleton]; omega) (hW.trans b2).size).mono ?_
          rintro e w3 ⟨rfl, h3, b3⟩
          go_wp2
          go_roundw
          case rel => exact ⟨k + 1, by omega, by go_num, .inr (by rw [hst2]; exact h3), (hW.trans b2).trans b3⟩
          case measure => simp [intOf]; omega
      · have t3 : ((s[k].toNat : Int) == 34) = false := by simp; omega
        have t4 : ((s[k].toNat : Int) == 92) = false := by simp; omega
        have e2 : quoteC s[k] = ⟨#[s[k]]⟩ := by rw [quoteC, if_neg n10, if_neg n9, if_neg fun e => h34 (e.imp (congrArg UInt8.toNat) (congrArg UInt8.toNat))]
        have hst2 : Lib.byteCells (quoteP s (k + 1)).data.toList = Lib.byteCells (quoteP s k).data.toList ++ [.int .u8 s[k].toNat] := by rw [hst, e2]; simp [Lib.byteCells]
        clear hst e2 h34
        go_wp2_with fail
        refine (Tryd.writeByte_h w.heap.size w.heap.size _ s[k].toNat wr hB (by omega) hBw).mono ?_
        rintro e w2 ⟨rfl, h2, b2⟩
        go_wp2
        go_roundw
        case rel => exact ⟨k + 1, by omega, by go_num, .inr (by rw [hst2]; exact h2), hW.trans b2⟩
        case measure => simp [intOf]; omega
    · have he : k = s.size := by omega
      subst he
      go_wp2_with fail
      refine (Tryd.writeByte_h w.heap.size w.heap.size _ 34 wr hB (by omega) hBw).mono ?_
      rintro e w2 ⟨rfl, h2, b2⟩
      have hq : Lib.byteCells (quoteB s).data.toList = Lib.byteCells (quoteP s s.size).data.toList ++ [.int .u8 34] := by rw [quoteB, cells_app]; rfl
      rw [← hq] at h2
      go_wp2_with fail
      refine (Tryd.Builder_String w.heap.size w.heap.size (quoteB s).data.toList w2 (.inr h2) (by rw [quoteB, ba_list]; simp)).mono ?_
      rintro e w3 ⟨rfl, b3⟩
      go_wp2
      go_ret
      exact ⟨rfl, (hW.trans b2).trans b3⟩
end Go.Proofs.YtpcddcfpbohogaaDoor
