/-
  A sum over bytes (the Bundle's): one byte turned, another sum. Plain laws, no program in sight.
-/
import Derived.Test.YtpcddcfpbohogaaDoorA3
namespace Go.Proofs.YtpcddcfpbohogaaDoor
set_option linter.unusedSimpArgs false
set_option linter.unusedVariables false

def fnvS (n : BitVec 64) (b : UInt8) : BitVec 64 := (n ^^^ BitVec.ofNat 64 b.toNat) * 1099511628211#64
def fnvF (n : BitVec 64) (l : List UInt8) : BitVec 64 := l.foldl fnvS n
theorem fnv_mul {a b : BitVec 64} (h : a * 1099511628211#64 = b * 1099511628211#64) : a = b := by
  have e : (1099511628211#64 : BitVec 64) * 14886173955864302971#64 = 1#64 := by decide
  have := congrArg (fun x => x * 14886173955864302971#64) h
  simp only [BitVec.mul_assoc, e, BitVec.mul_one] at this
  exact this
theorem fnv_xor {a b c : BitVec 64} (h : a ^^^ c = b ^^^ c) : a = b := by
  have := congrArg (fun x => x ^^^ c) h
  simpa [BitVec.xor_assoc] using this
theorem fnvS_left {n m : BitVec 64} {b : UInt8} (h : fnvS n b = fnvS m b) : n = m := fnv_xor (fnv_mul h)
theorem fnvS_right {n : BitVec 64} {b c : UInt8} (h : fnvS n b = fnvS n c) : b = c := by
  have h1 : n ^^^ BitVec.ofNat 64 b.toNat = n ^^^ BitVec.ofNat 64 c.toNat := fnv_mul h
  rw [BitVec.xor_comm n, BitVec.xor_comm n] at h1
  have h2 := congrArg BitVec.toNat (fnv_xor h1)
  rw [BitVec.toNat_ofNat, BitVec.toNat_ofNat] at h2
  have hb := b.toNat_lt
  have hc := c.toNat_lt
  rw [Nat.mod_eq_of_lt (by omega), Nat.mod_eq_of_lt (by omega)] at h2
  exact UInt8.toNat_inj.1 h2
theorem fnvF_left : ∀ (l : List UInt8) {n m : BitVec 64}, fnvF n l = fnvF m l → n = m
  | [], _, _, h => h
  | b :: l, _, _, h => fnvS_left (fnvF_left l h)
/-- one byte turned: another sum -/
theorem fnv_turn {n : BitVec 64} {p q : List UInt8} {b c : UInt8} (h : b ≠ c) : fnvF n (p ++ b :: q) ≠ fnvF n (p ++ c :: q) := fun e => by
  rw [fnvF, fnvF, List.foldl_append, List.foldl_append, List.foldl_cons, List.foldl_cons] at e
  exact h (fnvS_right (fnvF_left q e))
/-- the sum as the walk has it (XBn1's sumI, said again) -/
def sumJ (s : ByteArray) : Nat → Int
  | 0 => 14695981039346656037
  | k + 1 => IntKind.u64.wrap (bits .xor .u64 (sumJ s k) (IntKind.u64.wrap ((s.data.getD k 0).toNat : Int)) * 1099511628211)
theorem wrap64 (n : Int) : IntKind.u64.wrap n = n % 18446744073709551616 := rfl
theorem sumJ_fnv (s : ByteArray) : ∀ k, k ≤ s.size → sumJ s k = ((fnvF 14695981039346656037#64 (s.data.toList.take k)).toNat : Int)
  | 0, _ => rfl
  | k + 1, h => by
    have ih := sumJ_fnv s k (by omega)
    have hb : s.data.getD k 0 = s[k] := by rw [Array.getD, dif_pos (show k < s.data.size by have : s.data.size = s.size := rfl; omega)]; rfl
    have h2 : k < s.data.toList.length := h
    have ht : s.data.toList.take (k + 1) = s.data.toList.take k ++ [s[k]] := by rw [List.take_succ_eq_append_getElem h2]; rfl
    have e : fnvF 14695981039346656037#64 (s.data.toList.take k ++ [s[k]]) = fnvS (fnvF 14695981039346656037#64 (s.data.toList.take k)) s[k] := by rw [fnvF, List.foldl_append]; rfl
    rw [sumJ, ih, hb, ht, e, fnvS]
    generalize fnvF 14695981039346656037#64 (s.data.toList.take k) = n
    have hlt := s[k].toNat_lt
    generalize s[k].toNat = b at hlt
    have hn := n.isLt
    have w0 : IntKind.u64.wrap (b : Int) = (b : Int) := by rw [wrap64, Int.emod_eq_of_lt (by omega) (by omega)]
    have a1 : BitVec.ofInt 64 (n.toNat : Int) = n := by rw [BitVec.ofInt_natCast, BitVec.ofNat_toNat, BitVec.setWidth_eq]
    have a2 : BitVec.ofInt 64 (b : Int) = BitVec.ofNat 64 b := BitVec.ofInt_natCast ..
    have hx : bits .xor .u64 (n.toNat : Int) (b : Int) = ((n ^^^ BitVec.ofNat 64 b).toNat : Int) := by
      show IntKind.u64.wrap ((BitVec.ofInt 64 (n.toNat : Int) ^^^ BitVec.ofInt 64 (b : Int)).toNat : Int) = _
      rw [a1, a2, wrap64]
      have := (n ^^^ BitVec.ofNat 64 b).isLt
      rw [Int.emod_eq_of_lt (by omega) (by omega)]
    rw [w0, hx, wrap64, BitVec.toNat_mul]
    generalize (n ^^^ BitVec.ofNat 64 b).toNat = x
    have : (1099511628211#64 : BitVec 64).toNat = 1099511628211 := rfl
    rw [this]
    omega
/-- a text with one byte turned has another sum -/
theorem sumJ_turn {s t : ByteArray} {i : Nat} {c : UInt8} (hi : i < s.size) (hc : c ≠ s[i]) (ht : t.data.toList = s.data.toList.set i c) : sumJ t t.size ≠ sumJ s s.size := by
  have zs : s.data.toList.length = s.size := rfl
  have zt : t.data.toList.length = t.size := rfl
  have hz : t.size = s.size := by rw [← zt, ht, List.length_set, zs]
  intro e
  rw [sumJ_fnv t t.size (Nat.le_refl _), sumJ_fnv s s.size (Nat.le_refl _), List.take_of_length_le (by omega), List.take_of_length_le (by omega)] at e
  have e2 : fnvF 14695981039346656037#64 t.data.toList = fnvF 14695981039346656037#64 s.data.toList := BitVec.eq_of_toNat_eq (Int.ofNat.inj e)
  have h2 : i < s.data.toList.length := hi
  have hs : s.data.toList = s.data.toList.take i ++ s[i] :: s.data.toList.drop (i + 1) := by
    conv => lhs; rw [← List.take_append_drop i s.data.toList, List.drop_eq_getElem_cons h2]
    rfl
  rw [ht, List.set_eq_take_append_cons_drop, if_pos h2] at e2
  rw [hs] at e2
  have hl : (s.data.toList.take i ++ s[i] :: s.data.toList.drop (i + 1)).take i = s.data.toList.take i := by rw [← hs]
  have hd : (s.data.toList.take i ++ s[i] :: s.data.toList.drop (i + 1)).drop (i + 1) = s.data.toList.drop (i + 1) := by rw [← hs]
  rw [hl, hd] at e2
  exact fnv_turn hc e2
/-- a bit turned is another byte -/
theorem bit_turn : (List.range 8).all (fun k => (List.range 256).all fun c => !decide (bits .xor .u8 (c : Int) (2 ^ k : Nat) = (c : Int))) = true := by decide +kernel
end Go.Proofs.YtpcddcfpbohogaaDoor
