/-
  The texts that the claim wants, one behind the other: part 27.
-/
import Derived.Test.YtgidajjjpeboeaaGreatDoorS26
import Derived.BigQuiet
import Derived.Deep.RegionWith
set_option linter.unusedSimpArgs false
set_option linter.unusedVariables false
namespace Go.Proofs.YtgidajjjpeboeaaGreatDoor
open Go.RowKit
theorem nanI_any (a : Int) (w : World) : Calls Tryz.prog 90 #[.int .i64 a] w fun e w' => e = .returned (.bool false) ∧ w' = w := by
 go_enter Tryz.func90, Tryz.ntmps90
 go_wp2_with fail
 go_ret
 exact ⟨by simp, rfl⟩
theorem nanS_any (a : ByteArray) (w : World) : Calls Tryz.prog 120 #[.string a] w fun e w' => e = .returned (.bool false) ∧ w' = w := by
 go_enter Tryz.func120, Tryz.ntmps120
 go_wp2_with fail
 go_ret
 exact ⟨by simp, rfl⟩
set_option maxRecDepth 100000 in
theorem cmpI_any (a b : Int) (w : World) : Calls Tryz.prog 54 #[.int .i64 a, .int .i64 b] w fun e w' => e = .returned (.int .i64 (cmpN a b)) ∧ w' = w := by
 have h1 := Lib.hid fun a => nanI_any a w
 obtain ⟨R, hR⟩ : ∃ R, cmpN a b = R := ⟨_, rfl⟩
 rw [hR]
 by_cases hab : a < b
 ·rw [cmpN, if_pos hab] at hR
  subst hR
  go_enter Tryz.func54, Tryz.ntmps54
  go_wp2_with (go_at_call 90; refine (h1.out _).mono ?_; rintro e w1 ⟨rfl, rfl⟩)
  go_ret
  exact ⟨rfl, rfl⟩
 ·by_cases hba : b < a
  ·rw [cmpN, if_neg hab, if_pos hba] at hR
   subst hR
   have hba' : a > b := hba
   go_enter Tryz.func54, Tryz.ntmps54
   go_wp2_with (go_at_call 90; refine (h1.out _).mono ?_; rintro e w1 ⟨rfl, rfl⟩)
   go_ret
   exact ⟨rfl, rfl⟩
  ·rw [cmpN, if_neg hab, if_neg hba] at hR
   subst hR
   have hba' : ¬ a > b := hba
   go_enter Tryz.func54, Tryz.ntmps54
   go_wp2_with (go_at_call 90; refine (h1.out _).mono ?_; rintro e w1 ⟨rfl, rfl⟩)
   go_ret
   exact ⟨rfl, rfl⟩
theorem or_any (a b c d : Int) (w : World) (g cap : Nat) (h0 : w.cell? ⟨g, 0, none⟩ = some (.int .i64 a)) (h1 : w.cell? ⟨g, 1, none⟩ = some (.int .i64 b)) (h2 : w.cell? ⟨g, 2, none⟩ = some (.int .i64 c)) (h3 : w.cell? ⟨g, 3, none⟩ = some (.int .i64 d)) :
  Calls Tryz.prog 74 #[.slice (some ⟨g, 0, none⟩) 4 cap] w fun e w' => e = .returned (.int .i64 (or4 a b c d)) ∧ w' = w := by
 obtain ⟨R, hR⟩ : ∃ R, or4 a b c d = R := ⟨_, rfl⟩
 rw [hR]
 obtain ⟨f, f0, f1, f2, f3⟩ : ∃ f : Nat → Int, f 0 = a ∧ f 1 = b ∧ f 2 = c ∧ f 3 = d := ⟨fun k => match k with | 0 => a | 1 => b | 2 => c | _ => d, rfl, rfl, rfl, rfl⟩
 have hcell : ∀ k, k < 4 → w.cell? ⟨g, k, none⟩ = some (.int .i64 (f k)) := fun k hk => by
  rcases k with _ | _ | _ | _ | k
  ·rw [f0]; exact h0
  ·rw [f1]; exact h1
  ·rw [f2]; exact h2
  ·rw [f3]; exact h3
  ·omega
 have hfirst : ∀ k, k < 4 → (∀ j, j < k → f j = 0) → f k ≠ 0 → R = f k := fun k hk hz hn => by
  rw [← hR, or4, ← f0, ← f1, ← f2, ← f3]
  rcases k with _ | _ | _ | _ | k
  ·rw [if_pos hn]
  ·rw [if_neg (fun h => h (hz 0 (by omega))), if_pos hn]
  ·rw [if_neg (fun h => h (hz 0 (by omega))), if_neg (fun h => h (hz 1 (by omega))), if_pos hn]
  ·rw [if_neg (fun h => h (hz 0 (by omega))), if_neg (fun h => h (hz 1 (by omega))), if_neg (fun h => h (hz 2 (by omega)))]
  ·omega
 have hnone : (∀ j, j < 4 → f j = 0) → R = 0 := fun hz => by
  rw [← hR, or4, ← f0, ← f1, ← f2, ← f3, if_neg (fun h => h (hz 0 (by omega))), if_neg (fun h => h (hz 1 (by omega))), if_neg (fun h => h (hz 2 (by omega)))]
  exact hz 3 (by omega)
 have HC := Lib.hid hcell
 have HF := Lib.hid hfirst
 have HN := Lib.hid hnone
 clear hcell hfirst hnone hR f0 f1 f2 f3 h0 h1 h2 h3
 go_enter Tryz.func74, Tryz.ntmps74
 go_wp2_with fail
 go_loopw [8] (fun i wr => ∃ k : Nat, k ≤ 4 ∧ i = .int .i64 k ∧ wr = w ∧ Hid (∀ j, j < k → f j = 0)) (fun i _ => 4 - (intOf i).toNat)
 case atStart => exact ⟨0, by omega, rfl, rfl, Lib.hid fun j h => by omega⟩
 case round =>
  obtain ⟨k, hk, rfl, rfl, hT⟩ := hrel
  by_cases hlt : k < 4
  ·have hx := HC.out k hlt
   have hlt' : ((k : Nat) : Int) < 4 := by omega
   by_cases hz : f k = 0
   ·rw [hz] at hx
    have HT2 : Hid (∀ j, j < k + 1 → f j = 0) := Lib.hid fun j hj => by
     by_cases e : j = k
     ·subst e; exact hz
     ·exact hT.out j (by omega)
    clear hT hz
    go_wp2_with fail
    go_roundw
    case rel => exact ⟨k + 1, by omega, by go_num, trivial, HT2⟩
    case measure => simp [intOf]; omega
   ·have hR := Lib.hid (HF.out k hlt hT.out hz)
    clear hT
    go_wp2_with fail
    go_ret
    exact ⟨by rw [hR.out]; rfl, rfl⟩
  ·have hk4 : ¬ ((k : Nat) : Int) < 4 := by omega
   have hR := Lib.hid (HN.out fun j hj => hT.out j (by omega))
   clear hT
   go_wp2_with fail
   go_ret
   exact ⟨by rw [hR.out]; rfl, rfl⟩
theorem cmpS_three (a b : ByteArray) : cmpS a b = -1 ∨ cmpS a b = 0 ∨ cmpS a b = 1 := by
 unfold cmpS
 generalize a.data.toList = x
 generalize b.data.toList = y
 induction x generalizing y with
 | nil => cases y <;> simp [Lib.compareBytes]
 | cons c x ih =>
  cases y with
  | nil => simp [Lib.compareBytes]
  | cons d y =>
   rw [Lib.compareBytes]
   (repeat' split) <;> first | exact .inl rfl | exact .inr (.inl rfl) | exact .inr (.inr rfl) | exact ih y
set_option maxRecDepth 100000 in
theorem cmpS_any (a b : ByteArray) (w : World) : Calls Tryz.prog 76 #[.string a, .string b] w fun e w' => e = .returned (.int .i64 (cmpS a b)) ∧ w' = w := by
 have h1 := Lib.hid fun a => nanS_any a w
 have h3 := cmpS_three a b
 have h4 := cmpS_lt (a := a) (b := b)
 have h5 := cmpS_anti a b
 have h6 := cmpS_eq (a := a) (b := b)
 obtain ⟨R, hR⟩ : ∃ R, cmpS a b = R := ⟨_, rfl⟩
 rw [hR] at h3 h4 h5 h6 ⊢
 unfold klt at h4 h5
 cases hab : Op.bytesLess a.toList b.toList with
 | true =>
  have e1 : R = -1 := by have := h4.2 hab; omega
  subst e1
  clear hR h3 h4 h5 h6
  go_enter Tryz.func76, Tryz.ntmps76
  go_wp2_with (go_at_call 120; refine (h1.out _).mono ?_; rintro e w1 ⟨rfl, rfl⟩)
  go_ret
  exact ⟨rfl, rfl⟩
 | false =>
  cases hba : Op.bytesLess b.toList a.toList with
  | true =>
   have e1 : R = 1 := by have := h5.2 hba; omega
   have hne : (a.toList == b.toList) = false := by
    refine beq_eq_false_iff_ne.2 fun e => klt_ne (a := b) (b := a) hba ?_
    rw [ByteArray.toList_eq, ByteArray.toList_eq] at e
    exact (ByteArray.ext (Array.toList_inj.1 e)).symm
   subst e1
   clear hR h3 h4 h5 h6
   go_enter Tryz.func76, Tryz.ntmps76
   go_wp2_with (go_at_call 120; refine (h1.out _).mono ?_; rintro e w1 ⟨rfl, rfl⟩)
   go_ret
   exact ⟨rfl, rfl⟩
  | false =>
   have e1 : R = 0 := by
    have k1 : ¬ R < 0 := fun h => by rw [h4.1 h] at hab; cases hab
    have k2 : ¬ 0 < R := fun h => by rw [h5.1 h] at hba; cases hba
    omega
   have hne : (a.toList == b.toList) = true := by rw [h6.1 e1]; simp
   subst e1
   clear hR h3 h4 h5 h6
   go_enter Tryz.func76, Tryz.ntmps76
   go_wp2_with (go_at_call 120; refine (h1.out _).mono ?_; rintro e w1 ⟨rfl, rfl⟩)
   go_ret
   exact ⟨rfl, rfl⟩
theorem rankIn_at {k : ByteArray} : ∀ {l : List ByteArray} {j : Nat}, l[j]? = some k → (∀ i x, i < j → l[i]? = some x → x ≠ k) → rankIn k l = j
 | [], j, h, _ => by simp at h
 | x :: l, 0, h, _ => by simp at h; rw [rankIn, if_pos h]
 | x :: l, j + 1, h, hn => by
  rw [rankIn, if_neg (hn 0 x (by omega) rfl), rankIn_at (l := l) (j := j) (by simpa using h) fun i y hi hy => hn (i + 1) y (by omega) (by simpa using hy)]
theorem rankIn_no {k : ByteArray} : ∀ {l : List ByteArray}, (∀ (i : Nat) x, l[i]? = some x → x ≠ k) → rankIn k l = l.length
 | [], _ => rfl
 | x :: l, h => by rw [rankIn, if_neg (h 0 x rfl), rankIn_no fun i y hy => h (i + 1) y (by simpa using hy)]; rfl
theorem tl_beq (a b : ByteArray) : (a.toList == b.toList) = decide (a = b) := by
 rw [Bool.eq_iff_iff, beq_iff_eq, decide_eq_true_eq, ByteArray.toList_eq, ByteArray.toList_eq]
 exact ⟨fun e => ByteArray.ext (Array.toList_inj.1 e), fun e => by rw [e]⟩
def idxR (k : ByteArray) (l : List ByteArray) : Int := if rankIn k l < l.length then rankIn k l else -1
theorem index_any (l : List ByteArray) (hl : l.length ≤ 1000) (k : ByteArray) (g cap : Nat) (w : World) (hcell : ∀ j x, l[j]? = some x → w.cell? ⟨g, j, none⟩ = some (.string x)) :
  Calls Tryz.prog 119 #[.slice (some ⟨g, 0, none⟩) l.length cap, .string k] w fun e w' => e = .returned (.int .i64 (idxR k l)) ∧ w' = w := by
 obtain ⟨R, hR⟩ : ∃ R, idxR k l = R := ⟨_, rfl⟩
 rw [hR]
 have hfound : ∀ j : Nat, l[j]? = some k → (∀ i x, i < j → l[i]? = some x → x ≠ k) → R = j := fun j h hn => by
  rw [← hR, idxR, rankIn_at h hn, if_pos (List.getElem?_eq_some_iff.1 h).1]
 have hnone : (∀ i x, i < l.length → l[i]? = some x → x ≠ k) → R = -1 := fun hn => by
  rw [← hR, idxR, rankIn_no fun i x hx => hn i x (List.getElem?_eq_some_iff.1 hx).1 hx, if_neg (by omega)]
 have hex : ∀ j : Nat, j < l.length → ∃ x, l[j]? = some x := fun j h => ⟨_, List.getElem?_eq_getElem h⟩
 obtain ⟨n, hn⟩ : ∃ n, l.length = n := ⟨_, rfl⟩
 rw [hn] at hl hnone hex ⊢
 have HC := Lib.hid hcell
 have HF := Lib.hid hfound
 have HN := Lib.hid hnone
 have HX := Lib.hid hex
 clear hcell hfound hnone hR hex hn
 go_enter Tryz.func119, Tryz.ntmps119
 go_wp2_with fail
 go_loopw [8] (fun i wr => ∃ j : Nat, j ≤ n ∧ i = .int .i64 j ∧ wr = w ∧ Hid (∀ i x, i < j → l[i]? = some x → x ≠ k)) (fun i _ => n - (intOf i).toNat)
 case atStart => exact ⟨0, by omega, rfl, rfl, Lib.hid fun j x h => by omega⟩
 case round =>
  obtain ⟨j, hk, rfl, rfl, hT⟩ := hrel
  by_cases hlt : j < n
  ·obtain ⟨x, hX⟩ := HX.out j hlt
   have hx := HC.out j x hX
   have hlt' : ((j : Nat) : Int) < n := by omega
   have hb := tl_beq k x
   by_cases hz : x = k
   ·have hR := Lib.hid (HF.out j (hz ▸ hX) hT.out)
    rw [decide_eq_true hz.symm] at hb
    clear hT hX hz
    go_wp2_with fail
    go_ret
    exact ⟨by rw [hR.out]; rfl, rfl⟩
   ·have HT2 : Hid (∀ i x, i < j + 1 → l[i]? = some x → x ≠ k) := Lib.hid fun i y hi hy => by
     by_cases e : i = j
     ·subst e; rw [hX] at hy; cases hy; exact hz
     ·exact hT.out i y (by omega) hy
    rw [decide_eq_false (fun e => hz e.symm)] at hb
    clear hT hz hX
    go_wp2_with fail
    go_roundw
    case rel => exact ⟨j + 1, by omega, by go_num, trivial, HT2⟩
    case measure => simp [intOf]; omega
  ·have hk4 : ¬ ((j : Nat) : Int) < n := by omega
   have hR := Lib.hid (HN.out fun i x hi => hT.out i x (by omega))
   clear hT
   go_wp2_with fail
   go_ret
   exact ⟨by rw [hR.out]; rfl, rfl⟩
theorem order_cells {w : World} (hg : GW w) (j : Nat) (x : ByteArray) (h : ordL[j]? = some x) : w.cell? ⟨gi_order, j, none⟩ = some (.string x) := by
 rw [hg.cell (l := gv_order) (by simp [globL]) j]
 have e : gv_order = ordL.map Value.string := rfl
 rw [e, List.getElem?_map, h]
 rfl
theorem rank_any (k : ByteArray) (w : World) (hg : GW w) : Calls Tryz.prog 75 #[.string k] w fun e w' => e = .returned (.int .i64 (rankB k)) ∧ w' = w := by
 have hI := Lib.hid fun cap => index_any ordL (by decide) k gi_order cap w (order_cells hg)
 have hle := rank_le k
 obtain ⟨R, hR⟩ : ∃ R, rankB k = R := ⟨_, rfl⟩
 obtain ⟨I, hI2⟩ : ∃ I, idxR k ordL = I := ⟨_, rfl⟩
 have hIR : (0 ≤ I → I = R) ∧ (I < 0 → R = 10) := by
  rw [← hI2, ← hR, idxR]
  have e1 : rankIn k ordL = rankB k := rfl
  have e2 : ordL.length = 10 := rfl
  rw [e1, e2]
  split <;> constructor <;> intro h <;> omega
 rw [hI2] at hI
 rw [hR]
 clear hR hI2 hg hle
 by_cases hI0 : I < 0
 ·have e := hIR.2 hI0
  subst e
  go_enter Tryz.func75, Tryz.ntmps75
  go_wp2_with (go_at_call 119; refine (hI.out _).mono ?_; rintro e w1 ⟨rfl, rfl⟩)
  go_ret
  exact ⟨rfl, rfl⟩
 ·have e := hIR.1 (by omega)
  subst e
  go_enter Tryz.func75, Tryz.ntmps75
  go_wp2_with (go_at_call 119; refine (hI.out _).mono ?_; rintro e w1 ⟨rfl, rfl⟩)
  go_ret
  exact ⟨rfl, rfl⟩
end Go.Proofs.YtgidajjjpeboeaaGreatDoor
