/-
  A whole number's digits: the document's function, walked; read as a word they are that number.
-/
import Derived.Test.YtfnpjakekeojoaaGreatDoorLwA
import Derived.Lib.ItoaNum
namespace Go.Proofs.YtfnpjakekeojoaaGreatDoor
set_option linter.unusedSimpArgs false
set_option linter.unusedVariables false
open Go.RowKit

theorem decD_eq (m : Nat) : Lib.decDigits m = if m < 10 then [UInt8.ofNat (48 + m)] else Lib.decDigits (m / 10) ++ [UInt8.ofNat (48 + m % 10)] := by
  rw [Lib.decDigits]
  split <;> rfl
theorem decD_len : ∀ (k m : Nat), m < 10 ^ (k + 1) → (Lib.decDigits m).length ≤ k + 1 := by
  intro k
  induction k with
  | zero => intro m h; rw [decD_eq, if_pos (by omega)]; simp
  | succ k ih =>
    intro m h
    rw [decD_eq]
    split
    · simp
    · have : m / 10 < 10 ^ (k + 1) := by rw [Nat.div_lt_iff_lt_mul (by omega)]; rw [Nat.pow_succ] at h; exact h
      have := ih _ this
      rw [List.length_append, List.length_singleton]
      omega
theorem dig_nat {d : Nat} (h : d < 10) : (UInt8.ofNat (48 + d)).toNat = 48 + d := by
  rw [UInt8.toNat_ofNat']
  omega
theorem decD_facts : ∀ (n m : Nat), m ≤ n → (∀ c ∈ Lib.decDigits m, okD c = true) ∧ dvF 0 (Lib.decDigits m) = m ∧ Lib.decDigits m ≠ [] := by
  intro n
  induction n with
  | zero =>
    intro m h
    obtain rfl : m = 0 := by omega
    rw [decD_eq, if_pos (by omega)]
    exact ⟨by decide, by decide, by simp⟩
  | succ n ih =>
    intro m h
    have hk : m % 10 < 10 := Nat.mod_lt _ (by omega)
    have okd : ∀ d : Nat, d < 10 → okD (UInt8.ofNat (48 + d)) = true := fun d hd => by
      rw [okD, dig_nat hd]; simp; omega
    rw [decD_eq]
    split
    · rename_i h10
      refine ⟨fun c hc => ?_, ?_, by simp⟩
      · rw [List.mem_singleton.1 hc]; exact okd m h10
      · simp only [dvF, List.foldl_cons, List.foldl_nil, dig_nat h10]; omega
    · rename_i h10
      obtain ⟨h1, h2, _⟩ := ih (m / 10) (by omega)
      refine ⟨fun c hc => ?_, ?_, by simp⟩
      · rcases List.mem_append.1 hc with hc | hc
        · exact h1 c hc
        · rw [List.mem_singleton.1 hc]; exact okd _ hk
      · rw [dvF, List.foldl_append]
        rw [dvF] at h2
        rw [h2]
        simp only [List.foldl_cons, List.foldl_nil, dig_nat hk]
        omega
def itB (n : Int) : ByteArray := ⟨(Lib.itoa n).toArray⟩
theorem cons_ba (c : UInt8) (s : List UInt8) : (ByteArray.mk #[c] ++ ByteArray.mk s.toArray) = ⟨(c :: s).toArray⟩ := by
  have : ∀ a b : ByteArray, a.data.toList = b.data.toList → a = b := by
    intro a b h
    cases a; cases b
    congr 1
    exact Array.toList_inj.1 h
  refine this _ _ ?_
  rw [ByteArray.data_append, Array.toList_append]
  simp
theorem digitsP_a (n : Nat) (hn : n ≤ 9223372036854775807) : AC Tryz.prog 21 [.int .i64 n] (.str ⟨(Lib.decDigits n).toArray⟩) := by
  refine AC.enter Tryz.func21 a_ref04_Digits_ok a_ref04_Digits_cb (by rfl) fun E hE => ?_
  show AK _ _ _ [.c b_ref04_Digits] _ _
  rw [b_ref04_Digits]
  (repeat (first | apply AK.seq | apply AK.block | apply AK.blk | apply AK.skip | (refine AK.reg follows_any (rs := []) (by rfl) ?_ ?_; first | exact trivial | exact ⟨trivial, trivial⟩ | exact ⟨trivial, trivial, trivial⟩ | exact ⟨trivial, trivial, trivial, trivial⟩ | fail) | fail))
  refine AK.loopI (fun i : Nat × List UInt8 => (frOf [(0, .int .i64 i.1), (3, .str ⟨i.2.toArray⟩), (4, .bool false)], ⟨boxOf [], fun _ => 0⟩)) (fun i => i.1 ≤ 9223372036854775807 ∧ i.2.length ≤ 100 - (Lib.decDigits i.1).length ∧ (Lib.decDigits i.1).length ≤ 20 ∧ Lib.decDigits n = Lib.decDigits i.1 ++ i.2) (fun i => i.1) (n, []) ⟨hn, by simp, decD_len 19 n (by omega), by simp⟩ (Weak.intro ⟨⟨_, rfl, .refl _⟩, ⟨_, rfl, .refl _⟩, ⟨_, rfl, .of_eq (congrArg AV.bool (by simp))⟩, trivial⟩ trivial rfl rfl) fun ⟨m, s⟩ ⟨hm, hsl, hdl, hd⟩ => ?_
  dsimp only at hm hsl hdl hd
  have t1 : ((m : Int)).tmod 10 = ((m % 10 : Nat) : Int) := rfl
  have t2 : ((m : Int)).tdiv 10 = ((m / 10 : Nat) : Int) := rfl
  have hk : m % 10 < 10 := Nat.mod_lt _ (by omega)
  have w1 : IntKind.i64.wrap (48 + ((m % 10 : Nat) : Int)) = ((48 + m % 10 : Nat) : Int) := by rw [wrap_in (by omega) (by omega)]; omega
  have w2 : IntKind.u8.wrap ((48 + m % 10 : Nat) : Int) = ((48 + m % 10 : Nat) : Int) := IntWalk.u8_in _ (by omega)
  have w3 : IntKind.i64.wrap ((m / 10 : Nat) : Int) = ((m / 10 : Nat) : Int) := wrap_in (by omega) (by omega)
  (repeat (first | apply AK.seq | apply AK.block | apply AK.blk | apply AK.skip | (refine AK.reg follows_any (rs := []) (by rfl) ?_ ?_; first | exact trivial | exact ⟨trivial, trivial⟩ | exact ⟨trivial, trivial, trivial⟩ | exact ⟨trivial, trivial, trivial, trivial⟩ | fail) | fail))
  refine AK.reg follows_any (rs := []) (by rfl) ?_ ?_
  · ((repeat' apply And.intro) <;> first | trivial | omega | (simp only [List.length_nil, List.length_cons]; omega) | (intro hgd; first | (rw [hgd]; rfl) | (refine ⟨?_, by repeat (first | exact trivial | refine ⟨hgd, ?_⟩)⟩; (repeat' apply And.intro) <;> first | trivial | omega | (intro h2; rw [hgd, h2]; rfl) | skip)) | skip)
  rw [t1]
  (repeat (first | apply AK.seq | apply AK.block | apply AK.blk | apply AK.skip | (refine AK.reg follows_any (rs := []) (by rfl) ?_ ?_; first | exact trivial | exact ⟨trivial, trivial⟩ | exact ⟨trivial, trivial, trivial⟩ | exact ⟨trivial, trivial, trivial, trivial⟩ | fail) | fail))
  refine AK.cond (by rfl) (fun hb => ?_) (fun hb => ?_)
  · exact absurd hb (by simp; omega)
  (repeat (first | apply AK.seq | apply AK.block | apply AK.blk | apply AK.skip | (refine AK.reg follows_any (rs := []) (by rfl) ?_ ?_; first | exact trivial | exact ⟨trivial, trivial⟩ | exact ⟨trivial, trivial, trivial⟩ | exact ⟨trivial, trivial, trivial, trivial⟩ | fail) | fail))
  refine AK.reg follows_any (rs := []) (by rfl) ?_ ?_
  · ((repeat' apply And.intro) <;> first | trivial | omega | (simp only [List.length_nil, List.length_cons]; omega) | (intro hgd; first | (rw [hgd]; rfl) | (refine ⟨?_, by repeat (first | exact trivial | refine ⟨hgd, ?_⟩)⟩; (repeat' apply And.intro) <;> first | trivial | omega | (intro h2; rw [hgd, h2]; rfl) | skip)) | skip)
    · rw [w1, w2]; omega
    · rw [w1, w2]; omega
    · show ((1 + s.toArray.size : Nat) : Int) ≤ _
      rw [List.size_toArray]
      omega
  rw [w1, w2]
  have hcons : (ByteArray.mk #[((48 + m % 10 : Nat) : Int).toNat.toUInt8] ++ ByteArray.mk s.toArray) = ⟨(UInt8.ofNat (48 + m % 10) :: s).toArray⟩ := cons_ba _ _
  (repeat (first | apply AK.seq | apply AK.block | apply AK.blk | apply AK.skip | (refine AK.reg follows_any (rs := []) (by rfl) ?_ ?_; first | exact trivial | exact ⟨trivial, trivial⟩ | exact ⟨trivial, trivial, trivial⟩ | exact ⟨trivial, trivial, trivial, trivial⟩ | fail) | fail))
  refine AK.reg follows_any (rs := []) (by rfl) ?_ ?_
  · ((repeat' apply And.intro) <;> first | trivial | omega | (simp only [List.length_nil, List.length_cons]; omega) | (intro hgd; first | (rw [hgd]; rfl) | (refine ⟨?_, by repeat (first | exact trivial | refine ⟨hgd, ?_⟩)⟩; (repeat' apply And.intro) <;> first | trivial | omega | (intro h2; rw [hgd, h2]; rfl) | skip)) | skip)
  rw [t2, w3]
  (repeat (first | apply AK.seq | apply AK.block | apply AK.blk | apply AK.skip | (refine AK.reg follows_any (rs := []) (by rfl) ?_ ?_; first | exact trivial | exact ⟨trivial, trivial⟩ | exact ⟨trivial, trivial, trivial⟩ | exact ⟨trivial, trivial, trivial, trivial⟩ | fail) | fail))
  refine AK.cond (by rfl) (fun hb => ?_) (fun hb => ?_)
  · have h0 : m / 10 = 0 := by have h : ((m / 10 : Nat) : Int) = 0 := by simpa using hb
                               omega
    have hm10 : m < 10 := by omega
    have hdm : Lib.decDigits m = [UInt8.ofNat (48 + m)] := by rw [decD_eq, if_pos hm10]
    rw [hdm] at hd
    have hmm : m % 10 = m := Nat.mod_eq_of_lt hm10
    refine AK.exit rfl ?_
    (repeat (first | apply AK.seq | apply AK.block | apply AK.blk | apply AK.skip | (refine AK.reg follows_any (rs := []) (by rfl) ?_ ?_; first | exact trivial | exact ⟨trivial, trivial⟩ | exact ⟨trivial, trivial, trivial⟩ | exact ⟨trivial, trivial, trivial, trivial⟩ | fail) | fail))
    refine AK.cond (by rfl) (fun hb => ?_) (fun hb => ?_)
    · cases hb
    (repeat (first | apply AK.seq | apply AK.block | apply AK.blk | apply AK.skip | (refine AK.reg follows_any (rs := []) (by rfl) ?_ ?_; first | exact trivial | exact ⟨trivial, trivial⟩ | exact ⟨trivial, trivial, trivial⟩ | exact ⟨trivial, trivial, trivial, trivial⟩ | fail) | fail))
    refine AK.ret ⟨_, rfl, ?_⟩
    refine congrArg AV.str (Eq.trans hcons ?_)
    rw [hmm, hd]
    rfl
  · have h0 : ¬ m / 10 = 0 := by have h : ¬ ((m / 10 : Nat) : Int) = 0 := by simpa using hb
                                 omega
    have hm10 : ¬ m < 10 := by omega
    have hdm : Lib.decDigits m = Lib.decDigits (m / 10) ++ [UInt8.ofNat (48 + m % 10)] := by rw [decD_eq, if_neg hm10]
    have hlm := congrArg List.length hdm
    rw [List.length_append, List.length_singleton] at hlm
    (repeat (first | apply AK.seq | apply AK.block | apply AK.blk | apply AK.skip | (refine AK.reg follows_any (rs := []) (by rfl) ?_ ?_; first | exact trivial | exact ⟨trivial, trivial⟩ | exact ⟨trivial, trivial, trivial⟩ | exact ⟨trivial, trivial, trivial, trivial⟩ | fail) | fail))
    exact AK.lp ⟨(m / 10, UInt8.ofNat (48 + m % 10) :: s), ⟨by dsimp only; omega, by dsimp only; rw [List.length_cons]; omega, by dsimp only; omega, by dsimp only; rw [hd, hdm, List.append_assoc]; rfl⟩, Weak.intro ⟨⟨_, rfl, .refl _⟩, ⟨_, rfl, .of_eq (congrArg AV.str hcons)⟩, ⟨_, rfl, .refl _⟩, trivial⟩ trivial rfl rfl, by dsimp only; omega⟩
theorem digitsN_a (n : Nat) (h1 : 1 ≤ n) (hn : n ≤ 9223372036854775808) : AC Tryz.prog 21 [.int .i64 (-(n : Int))] (.str ⟨(45 :: Lib.decDigits n).toArray⟩) := by
  refine AC.enter Tryz.func21 a_ref04_Digits_ok a_ref04_Digits_cb (by rfl) fun E hE => ?_
  show AK _ _ _ [.c b_ref04_Digits] _ _
  rw [b_ref04_Digits]
  (repeat (first | apply AK.seq | apply AK.block | apply AK.blk | apply AK.skip | (refine AK.reg follows_any (rs := []) (by rfl) ?_ ?_; first | exact trivial | exact ⟨trivial, trivial⟩ | exact ⟨trivial, trivial, trivial⟩ | exact ⟨trivial, trivial, trivial, trivial⟩ | fail) | fail))
  refine AK.loopI (fun i : Nat × List UInt8 => (frOf [(0, .int .i64 (-(i.1 : Int))), (3, .str ⟨i.2.toArray⟩), (4, .bool true)], ⟨boxOf [], fun _ => 0⟩)) (fun i => i.1 ≤ 9223372036854775808 ∧ i.2.length ≤ 100 - (Lib.decDigits i.1).length ∧ (Lib.decDigits i.1).length ≤ 20 ∧ Lib.decDigits n = Lib.decDigits i.1 ++ i.2) (fun i => i.1) (n, []) ⟨hn, by simp, decD_len 19 n (by omega), by simp⟩ (Weak.intro ⟨⟨_, rfl, .refl _⟩, ⟨_, rfl, .refl _⟩, ⟨_, rfl, .of_eq (congrArg AV.bool (by simp; omega))⟩, trivial⟩ trivial rfl rfl) fun ⟨m, s⟩ ⟨hm, hsl, hdl, hd⟩ => ?_
  dsimp only at hm hsl hdl hd
  have t1 : (-(m : Int)).tmod 10 = -((m % 10 : Nat) : Int) := by rw [Int.neg_tmod]; rfl
  have t2 : (-(m : Int)).tdiv 10 = -((m / 10 : Nat) : Int) := by rw [Int.neg_tdiv]; rfl
  have hk : m % 10 < 10 := Nat.mod_lt _ (by omega)
  have w0 : IntKind.i64.wrap (0 - -((m % 10 : Nat) : Int)) = ((m % 10 : Nat) : Int) := by rw [wrap_in (by omega) (by omega)]; omega
  have w1 : IntKind.i64.wrap (48 + ((m % 10 : Nat) : Int)) = ((48 + m % 10 : Nat) : Int) := by rw [wrap_in (by omega) (by omega)]; omega
  have w2 : IntKind.u8.wrap ((48 + m % 10 : Nat) : Int) = ((48 + m % 10 : Nat) : Int) := IntWalk.u8_in _ (by omega)
  have w3 : IntKind.i64.wrap (-((m / 10 : Nat) : Int)) = -((m / 10 : Nat) : Int) := wrap_in (by omega) (by omega)
  (repeat (first | apply AK.seq | apply AK.block | apply AK.blk | apply AK.skip | (refine AK.reg follows_any (rs := []) (by rfl) ?_ ?_; first | exact trivial | exact ⟨trivial, trivial⟩ | exact ⟨trivial, trivial, trivial⟩ | exact ⟨trivial, trivial, trivial, trivial⟩ | fail) | fail))
  refine AK.reg follows_any (rs := []) (by rfl) ?_ ?_
  · ((repeat' apply And.intro) <;> first | trivial | omega | (simp only [List.length_nil, List.length_cons]; omega) | (intro hgd; first | (rw [hgd]; rfl) | (refine ⟨?_, by repeat (first | exact trivial | refine ⟨hgd, ?_⟩)⟩; (repeat' apply And.intro) <;> first | trivial | omega | (intro h2; rw [hgd, h2]; rfl) | skip)) | skip)
  rw [t1]
  (repeat (first | apply AK.seq | apply AK.block | apply AK.blk | apply AK.skip | (refine AK.reg follows_any (rs := []) (by rfl) ?_ ?_; first | exact trivial | exact ⟨trivial, trivial⟩ | exact ⟨trivial, trivial, trivial⟩ | exact ⟨trivial, trivial, trivial, trivial⟩ | fail) | fail))
  refine AK.cond (by rfl) (fun hb => ?_) (fun hb => ?_)
  refine AK.reg follows_any (rs := []) (by rfl) (by (repeat (first | exact trivial | exact rfl | refine ⟨trivial, ?_⟩ | refine ⟨rfl, ?_⟩))) ?_
  rw [w0]
  refine AK.weak (Weak.intro (L := [(0, .int .i64 (-(m : Int))), (3, .str ⟨s.toArray⟩), (4, .bool true), (5, .int .i64 ((m % 10 : Nat) : Int))]) (BL := []) ⟨⟨_, rfl, .refl _⟩, ⟨_, rfl, .refl _⟩, ⟨_, rfl, .refl _⟩, ⟨_, rfl, .refl _⟩, trivial⟩ trivial rfl rfl) ?_
  rotate_left 1
  have e5 : -((m % 10 : Nat) : Int) = ((m % 10 : Nat) : Int) := by
    have := of_decide_eq_false hb
    omega
  apply AK.skip
  refine AK.weak (Weak.intro (L := [(0, .int .i64 (-(m : Int))), (3, .str ⟨s.toArray⟩), (4, .bool true), (5, .int .i64 ((m % 10 : Nat) : Int))]) (BL := []) ⟨⟨_, rfl, .refl _⟩, ⟨_, rfl, .refl _⟩, ⟨_, rfl, .refl _⟩, ⟨_, rfl, .of_eq (congrArg (AV.int _) e5)⟩, trivial⟩ trivial rfl rfl) ?_
  clear e5
  all_goals
    clear hb w0 t1
    (repeat (first | apply AK.seq | apply AK.block | apply AK.blk | apply AK.skip | (refine AK.reg follows_any (rs := []) (by rfl) ?_ ?_; first | exact trivial | exact ⟨trivial, trivial⟩ | exact ⟨trivial, trivial, trivial⟩ | exact ⟨trivial, trivial, trivial, trivial⟩ | fail) | fail))
    refine AK.reg follows_any (rs := []) (by rfl) ?_ ?_
    · ((repeat' apply And.intro) <;> first | trivial | omega | (simp only [List.length_nil, List.length_cons]; omega) | (intro hgd; first | (rw [hgd]; rfl) | (refine ⟨?_, by repeat (first | exact trivial | refine ⟨hgd, ?_⟩)⟩; (repeat' apply And.intro) <;> first | trivial | omega | (intro h2; rw [hgd, h2]; rfl) | skip)) | skip)
      · rw [w1, w2]; omega
      · rw [w1, w2]; omega
      · show ((1 + s.toArray.size : Nat) : Int) ≤ _
        rw [List.size_toArray]
        omega
    rw [w1, w2]
    have hcons : (ByteArray.mk #[((48 + m % 10 : Nat) : Int).toNat.toUInt8] ++ ByteArray.mk s.toArray) = ⟨(UInt8.ofNat (48 + m % 10) :: s).toArray⟩ := cons_ba _ _
    (repeat (first | apply AK.seq | apply AK.block | apply AK.blk | apply AK.skip | (refine AK.reg follows_any (rs := []) (by rfl) ?_ ?_; first | exact trivial | exact ⟨trivial, trivial⟩ | exact ⟨trivial, trivial, trivial⟩ | exact ⟨trivial, trivial, trivial, trivial⟩ | fail) | fail))
    refine AK.reg follows_any (rs := []) (by rfl) ?_ ?_
    · ((repeat' apply And.intro) <;> first | trivial | omega | (simp only [List.length_nil, List.length_cons]; omega) | (intro hgd; first | (rw [hgd]; rfl) | (refine ⟨?_, by repeat (first | exact trivial | refine ⟨hgd, ?_⟩)⟩; (repeat' apply And.intro) <;> first | trivial | omega | (intro h2; rw [hgd, h2]; rfl) | skip)) | skip)
    rw [t2, w3]
    (repeat (first | apply AK.seq | apply AK.block | apply AK.blk | apply AK.skip | (refine AK.reg follows_any (rs := []) (by rfl) ?_ ?_; first | exact trivial | exact ⟨trivial, trivial⟩ | exact ⟨trivial, trivial, trivial⟩ | exact ⟨trivial, trivial, trivial, trivial⟩ | fail) | fail))
    refine AK.cond (by rfl) (fun hb => ?_) (fun hb => ?_)
    · have h0 : m / 10 = 0 := by have h : -((m / 10 : Nat) : Int) = 0 := by simpa using hb
                                 omega
      have hm10 : m < 10 := by omega
      have hdm : Lib.decDigits m = [UInt8.ofNat (48 + m)] := by rw [decD_eq, if_pos hm10]
      rw [hdm] at hd
      have hmm : m % 10 = m := Nat.mod_eq_of_lt hm10
      refine AK.exit rfl ?_
      (repeat (first | apply AK.seq | apply AK.block | apply AK.blk | apply AK.skip | (refine AK.reg follows_any (rs := []) (by rfl) ?_ ?_; first | exact trivial | exact ⟨trivial, trivial⟩ | exact ⟨trivial, trivial, trivial⟩ | exact ⟨trivial, trivial, trivial, trivial⟩ | fail) | fail))
      refine AK.cond (by rfl) (fun hb => ?_) (fun hb => ?_)
      · have hcons2 : (ByteArray.mk #[((48 + m % 10 : Nat) : Int).toNat.toUInt8] ++ ByteArray.mk s.toArray).size ≤ 101 := by
          rw [hcons]
          show ((UInt8.ofNat (48 + m % 10) :: s).toArray).size ≤ _
          rw [List.size_toArray, List.length_cons]; omega
        (repeat (first | apply AK.seq | apply AK.block | apply AK.blk | apply AK.skip | (refine AK.reg follows_any (rs := []) (by rfl) ?_ ?_; first | exact trivial | exact ⟨trivial, trivial⟩ | exact ⟨trivial, trivial, trivial⟩ | exact ⟨trivial, trivial, trivial, trivial⟩ | fail) | fail))
        refine AK.reg follows_any (rs := []) (by rfl) ?_ ?_
        · ((repeat' apply And.intro) <;> first | trivial | omega | (simp only [List.length_nil, List.length_cons]; omega) | (intro hgd; first | (rw [hgd]; rfl) | (refine ⟨?_, by repeat (first | exact trivial | refine ⟨hgd, ?_⟩)⟩; (repeat' apply And.intro) <;> first | trivial | omega | (intro h2; rw [hgd, h2]; rfl) | skip)) | skip)
          have z : (ByteArray.mk #[45]).size = 1 := rfl
          omega
        (repeat (first | apply AK.seq | apply AK.block | apply AK.blk | apply AK.skip | (refine AK.reg follows_any (rs := []) (by rfl) ?_ ?_; first | exact trivial | exact ⟨trivial, trivial⟩ | exact ⟨trivial, trivial, trivial⟩ | exact ⟨trivial, trivial, trivial, trivial⟩ | fail) | fail))
        refine AK.ret ⟨_, rfl, ?_⟩
        refine congrArg AV.str ?_
        rw [hcons, hmm, hd]
        exact cons_ba _ _
      · cases hb
    · have h0 : ¬ m / 10 = 0 := by have h : ¬ -((m / 10 : Nat) : Int) = 0 := by simpa using hb
                                   omega
      have hm10 : ¬ m < 10 := by omega
      have hdm : Lib.decDigits m = Lib.decDigits (m / 10) ++ [UInt8.ofNat (48 + m % 10)] := by rw [decD_eq, if_neg hm10]
      have hlm := congrArg List.length hdm
      rw [List.length_append, List.length_singleton] at hlm
      (repeat (first | apply AK.seq | apply AK.block | apply AK.blk | apply AK.skip | (refine AK.reg follows_any (rs := []) (by rfl) ?_ ?_; first | exact trivial | exact ⟨trivial, trivial⟩ | exact ⟨trivial, trivial, trivial⟩ | exact ⟨trivial, trivial, trivial, trivial⟩ | fail) | fail))
      exact AK.lp ⟨(m / 10, UInt8.ofNat (48 + m % 10) :: s), ⟨by dsimp only; omega, by dsimp only; rw [List.length_cons]; omega, by dsimp only; omega, by dsimp only; rw [hd, hdm, List.append_assoc]; rfl⟩, Weak.intro ⟨⟨_, rfl, .refl _⟩, ⟨_, rfl, .of_eq (congrArg AV.str hcons)⟩, ⟨_, rfl, .refl _⟩, trivial⟩ trivial rfl rfl, by dsimp only; omega⟩
theorem digits_a (n : Int) (h1 : -9223372036854775808 ≤ n) (h2 : n ≤ 9223372036854775807) : AC Tryz.prog 21 [.int .i64 n] (.str (itB n)) := by
  by_cases hn : n < 0
  · have := digitsN_a n.natAbs (by omega) (by omega)
    rw [show -((n.natAbs : Nat) : Int) = n by omega] at this
    rw [itB, Lib.itoa, if_pos hn]
    exact this
  · have := digitsP_a n.toNat (by omega)
    rw [show ((n.toNat : Nat) : Int) = n by omega] at this
    rw [itB, Lib.itoa, if_neg hn]
    exact this
end Go.Proofs.YtfnpjakekeojoaaGreatDoor
/-
  A number's digits are read as the number; a path that is joined is parted as it was: plain laws.
-/
namespace Go.Proofs.YtfnpjakekeojoaaGreatDoor
set_option linter.unusedSimpArgs false
set_option linter.unusedVariables false
open Go.RowKit

theorem ba_ext {a b : ByteArray} (h : a.data.toList = b.data.toList) : a = b := by
  cases a; cases b
  congr 1
  exact Array.toList_inj.1 h
theorem head_ne {s t : ByteArray} {c d : UInt8} {l r : List UInt8} (hs : s.data.toList = c :: l) (ht : t.data.toList = d :: r) (h : c ≠ d) : s ≠ t := fun e => by
  rw [e, ht] at hs
  injection hs with h1 _
  exact h h1.symm
theorem hasB_head {s : ByteArray} {c d : UInt8} {l : List UInt8} (h : s.data.toList = c :: l) : hasB s ⟨#[d]⟩ = decide (c = d) := by
  have hsz : 1 ≤ s.size := by have : s.data.toList.length = s.size := rfl
                              rw [h] at this; simp at this; omega
  have h0 : s[0] = c := by have := byte_drop (s := s) (k := 0) hsz; rw [List.drop_zero, h] at this; injection this with h _; exact h.symm
  rw [hasB, show (ByteArray.mk #[d]).size = 1 from rfl, show s.extract 0 1 = ⟨#[s[0]]⟩ from ext_one hsz, h0, decide_eq_true hsz, Bool.true_and]
  by_cases hc : c = d
  · subst hc; simp
  · rw [decide_eq_false hc]
    simp [hc]
theorem word_dig (n : Int) (h1 : -9223372036854775808 ≤ n) (h2 : n ≤ 9223372036854775807) : wordP (itB n) = (V.int n, 0) := by
  obtain ⟨f1, f2, f3⟩ := decD_facts n.natAbs n.natAbs (Nat.le_refl _)
  obtain ⟨d0, ds, hds⟩ : ∃ d0 ds, Lib.decDigits n.natAbs = d0 :: ds := by
    cases h : Lib.decDigits n.natAbs with
    | nil => exact absurd h f3
    | cons a l => exact ⟨a, l, rfl⟩
  have hd0 : okD d0 = true := f1 d0 (by rw [hds]; simp)
  have hd0n : 48 ≤ d0.toNat ∧ d0.toNat ≤ 57 := by simpa [okD] using hd0
  have hlist : (itB n).data.toList = if n < 0 then 45 :: Lib.decDigits n.natAbs else Lib.decDigits n.natAbs := by
    rw [itB, Lib.itoa]
    split
    · rfl
    · rename_i hn
      show (Lib.decDigits n.toNat).toArray.toList = _
      rw [show n.toNat = n.natAbs by omega]
  obtain ⟨c, l, hcl, hc⟩ : ∃ c l, (itB n).data.toList = c :: l ∧ (c = 45 ∨ 48 ≤ c.toNat ∧ c.toNat ≤ 57) := by
    rw [hlist]
    split
    · exact ⟨45, _, rfl, .inl rfl⟩
    · exact ⟨d0, ds, hds, .inr hd0n⟩
  have ne : ∀ d : UInt8, ¬ (d = 45 ∨ 48 ≤ d.toNat ∧ d.toNat ≤ 57) → c ≠ d := fun d hd e => hd (e ▸ hc)
  have nn : ¬ (itB n = ⟨#[]⟩ ∨ itB n = ⟨#[126]⟩ ∨ itB n = wNull) := by
    rintro (h | h | h)
    · rw [h] at hcl; cases hcl
    · exact head_ne hcl (t := ⟨#[126]⟩) rfl (ne 126 (by decide)) h
    · exact head_ne hcl (t := wNull) rfl (ne 110 (by decide)) h
  have nb : ¬ (itB n = wTrue ∨ itB n = wFalse) := by
    rintro (h | h)
    · exact head_ne hcl (t := wTrue) rfl (ne 116 (by decide)) h
    · exact head_ne hcl (t := wFalse) rfl (ne 102 (by decide)) h
  have hB : hasB (itB n) ⟨#[45]⟩ = decide (n < 0) := by
    rw [hasB_head hcl]
    by_cases hn : n < 0
    · rw [if_pos hn] at hlist
      rw [hlist] at hcl
      injection hcl with e _
      rw [decide_eq_true hn, decide_eq_true e.symm]
    · rw [if_neg hn, hds] at hlist
      rw [hlist] at hcl
      injection hcl with e _
      rw [decide_eq_false hn, decide_eq_false]
      intro e2
      rw [← e] at e2
      rw [e2] at hd0n
      exact absurd hd0n.1 (by decide)
  have hD : dgS (itB n) = Lib.decDigits n.natAbs := by
    rw [dgS, cutS, hB]
    by_cases hn : n < 0
    · rw [decide_eq_true hn, if_pos rfl, show (ByteArray.mk #[45]).size = 1 from rfl, ext_end, hlist, if_pos hn]
      rfl
    · rw [decide_eq_false hn, if_neg (by decide), hlist, if_neg hn]
  have hN : numB (itB n) = true := by
    rw [numB, Bool.and_eq_true]
    refine ⟨?_, ?_⟩
    · rw [allB]
      exact List.all_eq_true.2 fun c hc => f1 c (by rw [← hD]; exact hc)
    · have : (dgS (itB n)).length = (cutS (itB n) ⟨#[45]⟩).size := rfl
      rw [hD, hds] at this
      simp at this
      exact decide_eq_true (by omega)
  rw [wordP, hasB_head hcl, hasB_head hcl, decide_eq_false (ne 34 (by decide)), decide_eq_false (ne 39 (by decide)), if_neg (by decide), scalP_num nn nb hN, hB, hD, f2, numR]
  by_cases hn : n < 0
  · rw [decide_eq_true hn, if_pos rfl, if_pos (by omega), show -((n.natAbs : Nat) : Int) = n by omega]
  · rw [decide_eq_false hn, if_neg (by decide), if_pos (by omega), show ((n.natAbs : Nat) : Int) = n by omega]
/-! joined -/
/-- steps with dots between -/
def joinL : List ByteArray → List UInt8
  | [] => []
  | s :: l => s.data.toList ++ l.flatMap fun t => 46 :: t.data.toList
def joinB (l : List ByteArray) : ByteArray := ⟨(joinL l).toArray⟩
theorem word_bytes {s : ByteArray} (h : wdB s = true) : ∀ c ∈ s.data.toList, okW c = true := by
  simp only [wdB, Bool.and_eq_true] at h
  exact List.all_eq_true.1 h.1
theorem okW_ne {c d : UInt8} (h : okW c = true) (hd : okW d = false) : c ≠ d := fun e => by rw [e, hd] at h; cases h
theorem join_bytes : ∀ {l : List ByteArray}, (∀ s ∈ l, wdB s = true) → ∀ c ∈ joinL l, okW c = true ∨ c = 46
  | [], _, c, hc => by cases hc
  | s :: l, h, c, hc => by
    rw [joinL] at hc
    rcases List.mem_append.1 hc with hc | hc
    · exact .inl (word_bytes (h s (by simp)) c hc)
    · obtain ⟨t, ht, hc⟩ := List.mem_flatMap.1 hc
      rcases List.mem_cons.1 hc with rfl | hc
      · exact .inr rfl
      · exact .inl (word_bytes (h t (by simp [ht])) c hc)
theorem ix_append {l r : List UInt8} {c : UInt8} (h : c ∉ l) : Lib.indexByte (l ++ c :: r) c = l.length := by
  induction l with
  | nil => simp [Lib.indexByte]
  | cons a l ih =>
    simp only [List.mem_cons, not_or] at h
    have := ih h.2
    rw [List.cons_append, Lib.indexByte, if_neg (by simpa using Ne.symm h.1), this, if_neg (by simp)]
    simp
theorem cut_join {p w : ByteArray} (h : 61 ∉ p.data.toList) : cutB (p ++ ⟨#[61]⟩ ++ w) 61 = (p, w, true) := by
  have hl : (p ++ ⟨#[61]⟩ ++ w).data.toList = p.data.toList ++ 61 :: w.data.toList := by simp
  have hi := ix_append (r := w.data.toList) h
  have hz : p.data.toList.length = p.size := rfl
  rw [cutB, hl, hi, if_neg (by simp), hz]
  congr 1
  · refine ba_ext ?_
    rw [Lib.extract_eq]
    show (((p ++ ⟨#[61]⟩ ++ w).data.toList.drop 0).take _) = _
    rw [hl]
    simp
  · congr 1
    refine ba_ext ?_
    rw [ext_end]
    show (p ++ ⟨#[61]⟩ ++ w).data.toList.drop _ = _
    rw [hl]
    have e : p.data.toList ++ 61 :: w.data.toList = (p.data.toList ++ [61]) ++ w.data.toList := by simp
    rw [e, List.drop_append_of_le_length (by simp [hz]), List.drop_of_length_le (by simp [hz])]
    rfl
theorem join_cons (t u : ByteArray) (l : List ByteArray) : joinL (t :: u :: l) = t.data.toList ++ 46 :: joinL (u :: l) := by
  rw [joinL, joinL, List.flatMap_cons]; rfl
theorem no_dot {s : ByteArray} (h : wdB s = true) : 46 ∉ s.data.toList := fun hm => by
  have := word_bytes h 46 hm
  exact absurd this (by decide)
theorem ix_none {l : List UInt8} {c : UInt8} (h : c ∉ l) : Lib.indexByte l c = -1 := by
  rcases ix_cases l c with ⟨h1, _⟩ | ⟨i, _, _, h3, _⟩
  · exact h1
  · exact absurd (List.mem_of_getElem? h3) h
theorem split_join : ∀ (l : List ByteArray) (s : ByteArray), l ≠ [] → (∀ t ∈ l, wdB t = true) → s.data.toList = joinL l → Lib.countB s ⟨#[46]⟩ + 1 = l.length ∧ Lib.splitB ⟨#[46]⟩ 0 (l.length - 1) s = l
  | [], _, h, _, _ => absurd rfl h
  | [t], s, _, hw, hs => by
    have e : s = t := ba_ext (by rw [hs]; simp [joinL])
    subst e
    have hi : Lib.indexB s ⟨#[46]⟩ = -1 := by
      show Lib.index s.data.toList [46] = -1
      rw [Lib.index_one, ix_none (no_dot (hw s (by simp)))]
    exact ⟨by rw [Lib.countB_miss _ _ hi]; rfl, rfl⟩
  | t :: u :: l, s, _, hw, hs => by
    rw [join_cons] at hs
    have ht := no_dot (hw t (by simp))
    have hz : t.data.toList.length = t.size := rfl
    have hi : Lib.indexB s ⟨#[46]⟩ = (t.size : Nat) := by
      show Lib.index s.data.toList [46] = _
      rw [Lib.index_one, hs, ix_append ht, hz]
    have hx : (s.extract (t.size + (ByteArray.mk #[46]).size) s.size).data.toList = joinL (u :: l) := by
      rw [ext_end]
      show s.data.toList.drop (t.size + 1) = _
      have e : t.data.toList ++ 46 :: joinL (u :: l) = (t.data.toList ++ [46]) ++ joinL (u :: l) := by simp
      rw [hs, e, List.drop_append_of_le_length (by simp [hz]), List.drop_of_length_le (by simp [hz])]
      rfl
    have h0 : s.extract 0 (t.size + 0) = t := by
      refine ba_ext ?_
      rw [Lib.extract_eq]
      show ((s.data.toList.drop 0).take _) = _
      rw [hs]
      simp [hz]
    obtain ⟨c1, c2⟩ := split_join (u :: l) (s.extract (t.size + (ByteArray.mk #[46]).size) s.size) (by simp) (fun x hx => hw x (by simp [List.mem_cons.1 hx])) hx
    refine ⟨?_, ?_⟩
    · rw [Lib.countB_hit _ _ _ (by decide) hi]
      simp only [List.length_cons] at c1 ⊢
      omega
    · simp only [List.length_cons, Nat.add_sub_cancel] at c2 ⊢
      rw [Lib.splitB_hit _ _ _ _ _ hi, h0, c2]
theorem path_join {l : List ByteArray} (hne : l ≠ []) (hl : l.length < 16) (hw : ∀ t ∈ l, wdB t = true) : pathP (joinB l) = (l, 0) := by
  obtain ⟨c1, c2⟩ := split_join l (joinB l) hne hw rfl
  have hs : splB (joinB l) = l := by
    rw [splB, show Lib.countB (joinB l) ⟨#[46]⟩ = l.length - 1 by omega, c2]
  rw [pathP, hs, if_neg (by omega), if_pos (List.all_eq_true.2 hw)]
theorem join_no61 {l : List ByteArray} (hw : ∀ t ∈ l, wdB t = true) : 61 ∉ (joinB l).data.toList := fun hm => by
  rcases join_bytes hw 61 hm with h | h
  · exact absurd h (by decide)
  · exact absurd h (by decide)
/-- a path, joined step by step -/
theorem join_snoc (l : List ByteArray) (t : ByteArray) (h : l ≠ []) : joinL (l ++ [t]) = joinL l ++ 46 :: t.data.toList := by
  cases l with
  | nil => exact absurd rfl h
  | cons s l => rw [List.cons_append, joinL, joinL, List.flatMap_append]; simp
theorem joinB_snoc (l : List ByteArray) (t : ByteArray) (h : l ≠ []) : joinB (l ++ [t]) = joinB l ++ ⟨#[46]⟩ ++ t := ba_ext (by
  show joinL (l ++ [t]) = _
  rw [join_snoc l t h]
  simp [joinB])
theorem joinB_one (t : ByteArray) : joinB [t] = ⟨#[]⟩ ++ t := ba_ext (by
  show joinL [t] = _
  simp [joinL])
theorem joinL_len : ∀ l : List ByteArray, (∀ t ∈ l, t.size ≤ 256) → (joinL l).length ≤ 257 * l.length
  | [], _ => by simp [joinL]
  | [s], h => by
    have := h s (by simp)
    have hz : s.data.toList.length = s.size := rfl
    simp only [joinL, List.flatMap_nil, List.append_nil, List.length_cons, List.length_nil]
    omega
  | s :: u :: l, h => by
    have := h s (by simp)
    have hz : s.data.toList.length = s.size := rfl
    have ih := joinL_len (u :: l) fun t ht => h t (by simp [List.mem_cons.1 ht])
    rw [join_cons, List.length_append, List.length_cons]
    simp only [List.length_cons] at ih ⊢
    omega
/-- a set of a path and a word -/
theorem setP_join (v : V) {l : List ByteArray} (hne : l ≠ []) (hl : l.length < 16) (hw : ∀ t ∈ l, wdB t = true) (w : ByteArray) (x : V) (hx : wordP w = (x, 0)) :
    setP v (joinB l ++ ⟨#[61]⟩ ++ w) = if (overN 100 v (nest x l)).checkC ≠ 0 then (V.null, (overN 100 v (nest x l)).checkC) else (overN 100 v (nest x l), 0) := by
  unfold setP
  rw [cut_join (join_no61 hw)]
  dsimp only
  rw [path_join hne hl hw, hx, if_neg (by decide)]
  dsimp only
  rw [if_neg (by decide), if_neg (by decide)]
end Go.Proofs.YtfnpjakekeojoaaGreatDoor
/-
  A value put at a path, a path cut off: plain laws.
-/
namespace Go.Proofs.YtfnpjakekeojoaaGreatDoor
set_option linter.unusedSimpArgs false
set_option linter.unusedVariables false
open Go.RowKit

theorem vMap_good {m : List (ByteArray × V)} (hk : ∀ p ∈ m, keyB p.1 = true ∧ p.2.good) (hr : risingK m) : (vMap m).good := by
  rw [vMap, V.good]
  refine ⟨by simp [kbad, noBytes], by simp [textB, allB, ByteArray.size], trivial, (goodM_iff m).2 hk, hr⟩
theorem vInt_good (n : Int) : (V.int n).good := by
  simp [V.int, V.good, goodL, goodM, risingK, kbad, textB, allB, noBytes, ByteArray.size]
theorem null_good : V.null.good := by
  rw [V.good_eq]
  exact ⟨by decide, by decide, trivial, trivial, trivial⟩
theorem okW_okK {c : UInt8} (h : okW c = true) : okK c = true := by
  simp only [okW, Bool.or_eq_true, Bool.and_eq_true, decide_eq_true_eq, beq_iff_eq] at h
  simp only [okK, Bool.and_eq_true, decide_eq_true_eq]
  omega
theorem word_key {s : ByteArray} (h : wdB s = true) : keyB s = true := by
  have hb := word_bytes h
  simp only [wdB, Bool.and_eq_true] at h
  simp only [keyB, Bool.and_eq_true]
  refine ⟨?_, h.2⟩
  rw [allB]
  exact List.all_eq_true.2 fun c hc => okW_okK (hb c hc)
theorem get_live {v : V} (hl : v.good) (k : ByteArray) : ((mfind k v.m).getD V.null).good := by
  cases hf : mfind k v.m with
  | none => exact null_good
  | some y => exact good_m hl (mem_of_mfind hf)
theorem good_key {v : V} (h : v.good) {p : ByteArray × V} (hp : p ∈ v.m) : keyB p.1 = true := ((goodM_iff _).1 (v.good_eq.1 h).2.2.2.1 p hp).1
/-- a value put at a path -/
def vput (x : V) : List ByteArray → V → V
  | [], _ => x
  | s :: l, v => vMap (minsert s (vput x l ((mfind s v.m).getD V.null)) v.m)
/-- what stands at a path taken away -/
def vcut : List ByteArray → V → V
  | [], v => v
  | [s], v => vMap (fdrop s v.m)
  | s :: t :: l, v => vMap (minsert s (vcut (t :: l) ((mfind s v.m).getD V.null)) v.m)
def vhas : List ByteArray → V → Prop
  | [], _ => True
  | s :: l, v => v.kind = 5 ∧ ∃ u, mfind s v.m = some u ∧ vhas l u
theorem vMap_m (m : List (ByteArray × V)) : (vMap m).m = m := rfl
theorem vMap_kind (m : List (ByteArray × V)) : (vMap m).kind = 5 := rfl
theorem nest_kind {x : V} (hx : x.kind ≠ 0) : ∀ l, (nest x l).kind ≠ 0
  | [] => hx
  | s :: l => by rw [nest, vMap_kind]; decide
theorem vput_none {x : V} : ∀ {l : List ByteArray} {v : V}, v.m = [] → vput x l v = nest x l
  | [], _, _ => rfl
  | s :: l, v, h => by
    rw [vput, nest, h]
    show vMap [(s, vput x l V.null)] = _
    rw [vput_none rfl]
theorem strip_nest {x : V} (hx : x.kind ≠ 0) (h5 : x.kind ≠ 5) : ∀ (l : List ByteArray) (n : Nat), stripN n (nest x l) = nest x l
  | l, 0 => rfl
  | [], n + 1 => by rw [nest, stripN, if_neg h5]
  | s :: l, n + 1 => by
    rw [nest, stripN, if_pos (vMap_kind _), vMap_m]
    have := nest_kind hx l
    simp only [stripM, List.filterMap_cons, if_neg this, List.filterMap_nil, strip_nest hx h5 l n]
theorem over_put {x : V} (hx : x.kind ≠ 0) (h5 : x.kind ≠ 5) : ∀ (l : List ByteArray) (n : Nat) (v : V), v.ord → l.length ≤ n → overN n v (nest x l) = vput x l v
  | [], 0, v, _, _ => rfl
  | [], n + 1, v, _, _ => by
    rw [nest, overN, if_neg (fun h => h5 h.2), stripN, if_neg h5, vput]
  | s :: l, 0, v, _, h => by simp at h
  | s :: l, n + 1, v, ho, h => by
    have ho' := (V.ord_eq v).1 ho
    rw [overN]
    by_cases hk : v.kind = 5
    · have hn := nest_kind hx l
      rw [nest, if_pos ⟨hk, vMap_kind _⟩, vMap_m, ← foldO_merge _ v.m _ (Nat.le_refl _) ho'.2.2.1 (List.pairwise_singleton _ _)]
      show vMap (stepO (overN n) v.m (s, nest x l)) = _
      rw [stepO, if_neg hn, vput]
      dsimp only
      rw [over_put hx h5 l n _ (was_ord ho'.2.2.2 s) (by simp at h; omega)]
    · rw [if_neg (fun h => hk h.1), strip_nest hx h5, vput_none (ho'.2.1 hk)]
theorem over_cut : ∀ (l : List ByteArray) (n : Nat) (v : V), l ≠ [] → v.ord → vhas l v → l.length ≤ n → overN n v (nest V.null l) = vcut l v
  | [], _, _, h, _, _, _ => absurd rfl h
  | s :: l, 0, v, _, _, _, h => by simp at h
  | [s], n + 1, v, _, ho, hh, _ => by
    have ho' := (V.ord_eq v).1 ho
    rw [overN, nest, if_pos ⟨hh.1, vMap_kind _⟩, vMap_m, ← foldO_merge _ v.m _ (Nat.le_refl _) ho'.2.2.1 (List.pairwise_singleton _ _)]
    show vMap (stepO (overN n) v.m (s, V.null)) = _
    rw [stepO, if_pos (show V.null.kind = 0 from rfl), vcut]
  | s :: t :: l, n + 1, v, _, ho, hh, h => by
    have ho' := (V.ord_eq v).1 ho
    obtain ⟨hk, u, hu, hl⟩ := hh
    rw [overN, nest, if_pos ⟨hk, vMap_kind _⟩, vMap_m, ← foldO_merge _ v.m _ (Nat.le_refl _) ho'.2.2.1 (List.pairwise_singleton _ _)]
    show vMap (stepO (overN n) v.m (s, nest V.null (t :: l))) = _
    rw [stepO, if_neg (by rw [nest, vMap_kind]; decide), vcut]
    dsimp only
    rw [hu, Option.getD_some, over_cut (t :: l) n u (by simp) (ho'.2.2.2 _ (mfind_in hu)) hl (by simp at h ⊢; omega)]
theorem mins_size {s : ByteArray} {y z : V} (h : y.size = z.size) : ∀ m : List (ByteArray × V), sizeM (minsert s y m) = sizeM (minsert s z m)
  | [] => by simp [minsert, sizeM, h]
  | (k, u) :: m => by
    rw [minsert, minsert]
    split
    · rw [sizeM, sizeM, mins_size h m]
    · split
      · rw [sizeM, sizeM, h]
      · simp only [sizeM, h]
theorem mins_mins {s : ByteArray} {y z : V} : ∀ m : List (ByteArray × V), minsert s y (minsert s z m) = minsert s y m
  | [] => by
    have h2 : cmpS s s = 0 := cmpS_eq.2 rfl
    simp [minsert, h2]
  | (k, u) :: m => by
    have h2 : cmpS s s = 0 := cmpS_eq.2 rfl
    rw [minsert]
    split
    · rename_i h
      rw [minsert, if_pos h, mins_mins m, minsert, if_pos h]
    · rename_i h
      split
      · rename_i h3
        rw [minsert, if_neg (by omega), if_pos h2, minsert, if_neg h, if_pos h3]
      · rename_i h3
        rw [minsert, if_neg (by omega), if_pos h2, minsert, if_neg h, if_neg h3]
theorem mins_depth {s : ByteArray} {y : V} {d : Nat} (h : y.depth ≤ d) : ∀ {m : List (ByteArray × V)}, depthM m ≤ d → depthM (minsert s y m) ≤ d
  | [], _ => by simp [minsert, depthM]; omega
  | (k, u) :: m, hm => by
    rw [depthM] at hm
    rw [minsert]
    split
    · have := mins_depth (s := s) h (m := m) (by omega)
      rw [depthM]; omega
    · split
      · rw [depthM]; omega
      · rw [depthM, depthM]; omega
theorem fdrop_depth (s : ByteArray) : ∀ m : List (ByteArray × V), depthM (fdrop s m) ≤ depthM m
  | [] => Nat.le_refl _
  | (k, u) :: m => by
    have := fdrop_depth s m
    rw [fdrop] at this ⊢
    rw [List.filter_cons]
    split
    · simp only [depthM]; omega
    · simp only [depthM]; omega
theorem vMap_depth (m : List (ByteArray × V)) : (vMap m).depth = depthM m + 1 := by rw [V.depth_eq]; simp [vMap, V.l, V.m, depthL]
theorem was_depth (v : V) (s : ByteArray) : ((mfind s v.m).getD V.null).depth ≤ v.depth := by
  cases hf : mfind s v.m with
  | none => rw [V.depth_eq v]; show V.null.depth ≤ _; rw [V.depth_eq]; simp [V.null, V.l, V.m, depthL, depthM]
  | some u =>
    have := mem_depthM (mem_of_mfind hf)
    rw [V.depth_eq v]
    simp only [Option.getD_some] at this ⊢
    omega
theorem was_depth2 {v u : V} {s : ByteArray} (h : mfind s v.m = some u) : u.depth + 1 ≤ v.depth := by
  have := mem_depthM (mem_of_mfind h)
  rw [V.depth_eq v]
  simp only at this
  omega
theorem vput_depth {x : V} (hx : x.depth ≤ 1) : ∀ (l : List ByteArray) (v : V), (vput x l v).depth ≤ max v.depth (l.length + 1)
  | [], v => by simp [vput]; omega
  | s :: l, v => by
    have ih := vput_depth hx l ((mfind s v.m).getD V.null)
    have hw : ((mfind s v.m).getD V.null).depth ≤ max (v.depth - 1) 1 := by
      cases hf : mfind s v.m with
      | none => show V.null.depth ≤ _; rw [V.depth_eq]; simp [V.null, V.l, V.m, depthL, depthM]; omega
      | some u => have := was_depth2 hf; simp only [Option.getD_some]; omega
    have hv : depthM v.m ≤ v.depth - 1 := by rw [V.depth_eq]; omega
    have := mins_depth (s := s) (y := vput x l ((mfind s v.m).getD V.null)) (d := max (v.depth - 1) (l.length + 1)) (by omega) (m := v.m) (by omega)
    rw [vput, vMap_depth]
    simp only [List.length_cons]
    omega
theorem vput_size {x y : V} (h : x.size = y.size) : ∀ (l : List ByteArray) (v : V), (vput x l v).size = (vput y l v).size
  | [], _ => h
  | s :: l, v => by rw [vput, vput, vMap_size, vMap_size, mins_size (vput_size h l _)]
theorem vput_vput {x y : V} : ∀ (l : List ByteArray) (v : V), v.ord → vput y l (vput x l v) = vput y l v
  | [], _, _ => rfl
  | s :: l, v, ho => by
    have ho' := (V.ord_eq v).1 ho
    rw [vput, vput, vMap_m, mfind_minsert ho'.2.2.1, if_pos rfl, Option.getD_some, mins_mins, vput_vput l _ (was_ord ho'.2.2.2 s), vput]
theorem vput_has {x : V} : ∀ (l : List ByteArray) (v : V), v.ord → vhas l (vput x l v)
  | [], _, _ => trivial
  | s :: l, v, ho => by
    have ho' := (V.ord_eq v).1 ho
    refine ⟨vMap_kind _, _, ?_, vput_has (x := x) l _ (was_ord ho'.2.2.2 s)⟩
    rw [vput, vMap_m, mfind_minsert ho'.2.2.1, if_pos rfl]
theorem vput_get {x : V} : ∀ (l : List ByteArray) (v : V), v.ord → (vput x l v).get l = some x
  | [], _, _ => rfl
  | s :: l, v, ho => by
    have ho' := (V.ord_eq v).1 ho
    rw [V.get, vput, vMap_m, mfind_minsert ho'.2.2.1, if_pos rfl]
    exact vput_get l _ (was_ord ho'.2.2.2 s)
theorem vcut_get : ∀ (l : List ByteArray) (v : V), l ≠ [] → v.ord → (vcut l v).get l = none
  | [], _, h, _ => absurd rfl h
  | [s], v, _, _ => by rw [V.get, vcut, vMap_m, mfind_fdrop, if_pos rfl]
  | s :: t :: l, v, _, ho => by
    have ho' := (V.ord_eq v).1 ho
    rw [V.get, vcut, vMap_m, mfind_minsert ho'.2.2.1, if_pos rfl]
    exact vcut_get (t :: l) _ (by simp) (was_ord ho'.2.2.2 s)
theorem vput_good {x : V} (hx : x.good) : ∀ (l : List ByteArray) (v : V), (∀ s ∈ l, wdB s = true) → v.good → (vput x l v).good
  | [], _, _, _ => hx
  | s :: l, v, hw, hg => by
    rw [vput]
    refine vMap_good (fun p hp => ?_) (risingK_of_rises (minsert_rises (good_rises hg)))
    rcases minsert_mem hp with rfl | hp
    · exact ⟨word_key (hw s (by simp)), vput_good hx l _ (fun t ht => hw t (by simp [ht])) (get_live hg s)⟩
    · exact ⟨good_key hg hp, good_m hg hp⟩
theorem vcut_facts : ∀ (l : List ByteArray) (v : V), (∀ s ∈ l, wdB s = true) → v.good → vhas l v → (vcut l v).good ∧ (vcut l v).size ≤ v.size ∧ (vcut l v).depth ≤ v.depth
  | [], v, _, hg, _ => ⟨hg, Nat.le_refl _, Nat.le_refl _⟩
  | [s], v, hw, hg, hh => by
    rw [vcut]
    refine ⟨vMap_good (fun p hp => ?_) (risingK_of_rises (fdrop_rises (good_rises hg))), ?_, ?_⟩
    · have hp := (List.mem_filter.1 hp).1
      exact ⟨good_key hg hp, good_m hg hp⟩
    · rw [vMap_size, v.size_eq]
      have := fdrop_size s v.m
      omega
    · rw [vMap_depth, v.depth_eq]
      have := fdrop_depth s v.m
      omega
  | s :: t :: l, v, hw, hg, hh => by
    obtain ⟨hk, u, hu, hl⟩ := hh
    obtain ⟨i1, i2, i3⟩ := vcut_facts (t :: l) u (fun x hx => hw x (by simp [List.mem_cons.1 hx])) (good_m hg (mem_of_mfind hu)) hl
    rw [vcut, hu, Option.getD_some]
    refine ⟨vMap_good (fun p hp => ?_) (risingK_of_rises (minsert_rises (good_rises hg))), ?_, ?_⟩
    · rcases minsert_mem hp with rfl | hp
      · exact ⟨word_key (hw s (by simp)), i1⟩
      · exact ⟨good_key hg hp, good_m hg hp⟩
    · rw [vMap_size, v.size_eq]
      have := minsert_size (y := vcut (t :: l) u) (good_rises hg) (mfind_in hu)
      omega
    · have h1 := mem_depthM (mem_of_mfind hu)
      simp only at h1
      have := mins_depth (s := s) (y := vcut (t :: l) u) (d := depthM v.m) (by omega) (m := v.m) (Nat.le_refl _)
      rw [vMap_depth, v.depth_eq]
      omega
/-! what may be is all right -/
theorem good_parts : ∀ (n : Nat) (v : V), v.size ≤ n → v.good → v.partsC = 0 := by
  intro n
  induction n with
  | zero => intro v h; have := v.size_pos; omega
  | succ n ih =>
    intro v hn hg
    have e := v.size_eq
    obtain ⟨g1, g2, g3, g4, g5⟩ := v.good_eq.1 hg
    have hL : ∀ l : List V, sizeL l ≤ n → goodL l → partsL l = 0 := by
      intro l
      induction l with
      | nil => intro _ _; rfl
      | cons x l ihl =>
        intro hs hl
        simp only [sizeL] at hs
        rw [partsL, ih x (by omega) hl.1, if_neg (by simp)]
        exact ihl (by omega) hl.2
    have hM : ∀ (m : List (ByteArray × V)) (p : Option ByteArray), sizeM m ≤ n → goodM m → risingK m → (∀ z, p = some z → ∀ q, m.head? = some q → Op.bytesLess z.toList q.1.toList = true) → partsM p m = 0 := by
      intro m
      induction m with
      | nil => intro p _ _ _ _; rfl
      | cons q m ihm =>
        obtain ⟨y, x⟩ := q
        intro p hs hm hr hp
        simp only [sizeM] at hs
        have hnr : noRise p y = false := by
          cases p with
          | none => rfl
          | some z => rw [noRise, hp z rfl (y, x) rfl]; rfl
        rw [partsM, if_neg (by rw [hm.1]; simp), if_neg (by rw [hnr]; simp), ih x (by omega) hm.2.1, if_neg (by simp)]
        refine ihm (some y) (by omega) hm.2.2 ?_ ?_
        · cases m with
          | nil => trivial
          | cons q m => exact hr.2
        · intro z hz q hq
          cases hz
          cases m with
          | nil => cases hq
          | cons q' m => simp at hq; subst hq; exact hr.1
    rw [V.partsC_eq, if_neg (by simp [g1]), if_neg (by simp [g2]), hL v.l (by omega) g3, if_neg (by simp)]
    exact hM v.m none (by omega) g4 g5 (by simp)
theorem good_check {v : V} (h : v.good) (hd : v.depth ≤ 16) : v.checkC = if 4096 < v.size then 6 else 0 := by
  rw [V.checkC, if_neg (by omega), good_parts v.size v (Nat.le_refl _) h]
/-- three sets of one path, told -/
theorem last_plain {v : V} {l : List ByteArray} {a b : Int} (hg : v.good) (hd : v.depth ≤ 8) (hne : l ≠ []) (hl : l.length ≤ 6) (hw : ∀ t ∈ l, wdB t = true)
    (ha1 : -9223372036854775808 ≤ a) (ha2 : a ≤ 9223372036854775807) (hb1 : -9223372036854775808 ≤ b) (hb2 : b ≤ 9223372036854775807) :
    setP v (joinB l ++ ⟨#[61]⟩ ++ itB a) = (if 4096 < (vput (V.int a) l v).size then (V.null, 6) else (vput (V.int a) l v, 0)) ∧
    (¬ 4096 < (vput (V.int a) l v).size →
      setP (vput (V.int a) l v) (joinB l ++ ⟨#[61]⟩ ++ itB b) = (vput (V.int b) l v, 0) ∧
      setP (vput (V.int a) l v) (joinB l ++ ⟨#[61]⟩ ++ wNull) = (vcut l (vput (V.int a) l v), 0)) := by
  have hdi : ∀ n : Int, (V.int n).depth ≤ 1 := fun n => by rw [V.depth_eq]; simp [V.int, V.l, V.m, depthL, depthM]
  have hput : ∀ n : Int, (vput (V.int n) l v).good ∧ (vput (V.int n) l v).depth ≤ 16 := fun n => ⟨vput_good (vInt_good n) l v hw hg, by have := vput_depth (hdi n) l v; omega⟩
  have hk0 : ∀ n : Int, (V.int n).kind ≠ 0 := fun n => by show (2 : Int) ≠ 0; decide
  have hk5 : ∀ n : Int, (V.int n).kind ≠ 5 := fun n => by show (2 : Int) ≠ 5; decide
  refine ⟨?_, fun hs => ⟨?_, ?_⟩⟩
  · rw [setP_join v hne (by omega) hw _ _ (word_dig a ha1 ha2), over_put (hk0 a) (hk5 a) l 100 v hg.ord (by omega), good_check (hput a).1 (hput a).2]
    split
    · rw [if_pos (by decide)]
    · rw [if_neg (by decide)]
  · have hsz : (vput (V.int b) l v).size = (vput (V.int a) l v).size := vput_size (by rfl) l v
    rw [setP_join _ hne (by omega) hw _ _ (word_dig b hb1 hb2), over_put (hk0 b) (hk5 b) l 100 _ (hput a).1.ord (by omega), vput_vput l v hg.ord, good_check (hput b).1 (hput b).2, if_neg (by omega)]
  · have hh := vput_has (x := V.int a) l v hg.ord
    obtain ⟨c1, c2, c3⟩ := vcut_facts l _ hw (hput a).1 hh
    have hd := (hput a).2
    rw [setP_join _ hne (by omega) hw wNull V.null (by kernel_rfl), over_cut l 100 _ hne (hput a).1.ord hh (by omega), good_check c1 (by omega), if_neg (by omega)]
end Go.Proofs.YtfnpjakekeojoaaGreatDoor
