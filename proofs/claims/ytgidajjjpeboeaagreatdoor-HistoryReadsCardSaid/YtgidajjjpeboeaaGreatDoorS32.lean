/-
  The texts that the claim wants, one behind the other: part 32.
-/
import Derived.Test.YtgidajjjpeboeaaGreatDoorS31
import Derived.Lib.ItoaNum
import Derived.Lib.ItoaMem
import Derived.Lib.Atoi
import Derived.Lib.LastIndexLaws
set_option linter.unusedSimpArgs false
set_option linter.unusedVariables false
namespace Go.Proofs.YtgidajjjpeboeaaGreatDoor
open Go.Lib
theorem dec_digit : ∀ (n : Nat), ∀ b ∈ decDigits n, 48 ≤ b.toNat ∧ b.toNat ≤ 57 := by
 intro n
 induction n using Nat.strongRecOn with
 | _ n ih =>
  rw [decDigits]
  split
  ·intro b hb
   obtain rfl := List.mem_singleton.1 hb
   rw [UInt8.toNat_ofNat']
   omega
  ·intro b hb
   rcases List.mem_append.1 hb with h | h
   ·exact ih (n / 10) (by omega) b h
   ·obtain rfl := List.mem_singleton.1 h
    rw [UInt8.toNat_ofNat']
    omega
theorem dec_ne (n : Nat) : decDigits n ≠ [] := by
 rw [decDigits]
 split <;> simp
theorem decFrom_append (acc : Nat) : ∀ (a b : List UInt8), decFrom acc (a ++ b) = (decFrom acc a).bind fun m => decFrom m b
 | [], b => rfl
 | x :: a, b => by
  rw [List.cons_append, decFrom, decFrom]
  cases digitVal x with
  | none => rfl
  | some d => exact decFrom_append _ a b
termination_by a => a.length
theorem decFrom_dec : ∀ n : Nat, decFrom 0 (decDigits n) = some n := by
 intro n
 induction n using Nat.strongRecOn with
 | _ n ih =>
  rw [decDigits]
  split
  ·rename_i h
   have hd : digitVal (UInt8.ofNat (48 + n)) = some n := by
    unfold digitVal
    rw [UInt8.toNat_ofNat', if_pos (by omega)]
    congr 1
    omega
   rw [decFrom, hd]
   simp [decFrom]
  ·rename_i h
   have hd : digitVal (UInt8.ofNat (48 + n % 10)) = some (n % 10) := by
    unfold digitVal
    rw [UInt8.toNat_ofNat', if_pos (by omega)]
    congr 1
    omega
   rw [decFrom_append, ih (n / 10) (by omega)]
   simp only [Option.bind_some, decFrom, hd]
   congr 1
   omega
theorem atoi_dec (n : Nat) : atoi (decDigits n) = some (n : Int) := by
 have h := decFrom_dec n
 have hd := dec_digit n
 cases hl : decDigits n with
 | nil => exact absurd hl (dec_ne n)
 | cons b r =>
  rw [hl] at h hd
  have hb := hd b (by simp)
  have h1 : (b == 45) = false := by
   simp only [beq_eq_false_iff_ne, ne_eq]
   rintro rfl
   exact absurd hb.1 (by decide)
  have h2 : (b == 43) = false := by
   simp only [beq_eq_false_iff_ne, ne_eq]
   rintro rfl
   exact absurd hb.1 (by decide)
  rw [atoi, h1, h2]
  simp [decNat, h]
theorem dec_inj {n m : Nat} (h : decDigits n = decDigits m) : n = m := by
 have h1 := decFrom_dec n
 rw [h, decFrom_dec m] at h1
 exact (Option.some.inj h1).symm
theorem dec_len : ∀ (k n : Nat), n < 10 ^ (k + 1) → (decDigits n).length ≤ k + 1
 | 0, n, h => by rw [decDigits, dif_pos (by omega)]; simp
 | k + 1, n, h => by
  rw [decDigits]
  split
  ·simp
  ·have := dec_len k (n / 10) (by
    rw [Nat.pow_succ] at h
    exact Nat.div_lt_of_lt_mul (by rw [Nat.mul_comm]; exact h))
   rw [List.length_append, List.length_singleton]
   omega
theorem last_dot {x y x' y' : List UInt8} (h : x ++ 46 :: y = x' ++ 46 :: y') (hy : (46 : UInt8) ∉ y) (hy' : (46 : UInt8) ∉ y') : x = x' ∧ y = y' := by
 induction x generalizing x' with
 | nil =>
  cases x' with
  | nil => exact ⟨rfl, by simpa using h⟩
  | cons c x' =>
   rw [List.nil_append, List.cons_append] at h
   injection h with h1 h2
   exact absurd (h2 ▸ List.mem_append_right _ (List.mem_cons_self ..)) hy
 | cons c x ih =>
  cases x' with
  | nil =>
   rw [List.nil_append, List.cons_append] at h
   injection h with h1 h2
   exact absurd (h2 ▸ List.mem_append_right _ (List.mem_cons_self ..)) hy'
  | cons c' x' =>
   rw [List.cons_append, List.cons_append] at h
   injection h with h1 h2
   obtain ⟨e1, e2⟩ := ih h2
   exact ⟨by rw [h1, e1], e2⟩
def nameL (a : List UInt8) (n : Nat) : List UInt8 := a ++ [46, 118] ++ decDigits n
theorem dec_nodot (n : Nat) : (46 : UInt8) ∉ (118 : UInt8) :: decDigits n := by
 intro h
 rcases List.mem_cons.1 h with h | h
 ·exact absurd h (by decide)
 ·exact absurd (dec_digit n _ h).1 (by decide)
theorem nameL_inj {a b : List UInt8} {n m : Nat} (h : nameL a n = nameL b m) : a = b ∧ n = m := by
 unfold nameL at h
 have h' : a ++ 46 :: ((118 : UInt8) :: decDigits n) = b ++ 46 :: ((118 : UInt8) :: decDigits m) := by simpa using h
 obtain ⟨h1, h2⟩ := last_dot h' (dec_nodot n) (dec_nodot m)
 injection h2 with _ h2
 exact ⟨h1, dec_inj h2⟩
theorem nameL_last (a : List UInt8) (n : Nat) : lastIndex (nameL a n) [46, 118] = a.length := by
 have hlen : (nameL a n).length = a.length + 2 + (decDigits n).length := by simp [nameL]; omega
 have hne : 0 < (decDigits n).length := List.length_pos_iff.2 (dec_ne n)
 have hat : ∀ j, occAt (nameL a n) [46, 118] j = true → ∃ r, (nameL a n).drop j = 46 :: 118 :: r := by
  intro j h
  unfold occAt at h
  rw [List.isPrefixOf_iff_prefix] at h
  obtain ⟨r, hr⟩ := h
  exact ⟨r, by rw [← hr]; rfl⟩
 have hhit : occAt (nameL a n) [46, 118] a.length = true := by
  unfold occAt nameL
  rw [List.append_assoc, List.drop_left]
  simp [List.isPrefixOf]
 have hmiss : ∀ j, a.length < j → occAt (nameL a n) [46, 118] j = false := by
  intro j hj
  cases h : occAt (nameL a n) [46, 118] j with
  | false => rfl
  | true =>
   obtain ⟨r, hr⟩ := hat j h
   obtain ⟨i, rfl⟩ : ∃ i, j = a.length + (1 + i) := ⟨j - a.length - 1, by omega⟩
   have e : (nameL a n).drop (a.length + (1 + i)) = ((118 : UInt8) :: decDigits n).drop i := by
    unfold nameL
    rw [List.append_assoc, List.drop_append]
    rw [List.drop_of_length_le (by omega), List.nil_append, show a.length + (1 + i) - a.length = i + 1 by omega]
    rfl
   rw [e] at hr
   exact absurd (List.mem_of_mem_drop (hr ▸ List.mem_cons_self ..)) (dec_nodot n)
 unfold lastIndex
 rw [if_pos (by rw [hlen]; simp; omega)]
 rcases lastOcc_spec (nameL a n) [46, 118] ((nameL a n).length - ([46, 118] : List UInt8).length + 1) with ⟨_, h⟩ | ⟨i, hi, he, ho, h⟩
 ·exact absurd (h a.length (by rw [hlen]; simp; omega)) (by rw [hhit]; simp)
 ·rw [he]
  congr 1
  rcases Nat.lt_trichotomy i a.length with h1 | h1 | h1
  ·exact absurd (h a.length h1 (by rw [hlen]; simp; omega)) (by rw [hhit]; simp)
  ·exact h1
  ·rw [hmiss i h1] at ho; cases ho
end Go.Proofs.YtgidajjjpeboeaaGreatDoor
