/-
  Words: the document's quotes, words, places and errors, walked.
-/
import Derived.Test.YtgekcnpfflhpkaaGreatDoorRepA
import Derived.Test.YtgekcnpfflhpkaaGreatDoorEnc
import Derived.Test.YtgekcnpfflhpkaaGreatDoorFol
import Derived.Test.YtgekcnpfflhpkaaGreatDoorQuP
import Derived.Lib.Strings
namespace Go.Proofs.YtgekcnpfflhpkaaGreatDoor
set_option linter.unusedSimpArgs false
set_option linter.unusedVariables false
open Go.RowKit

theorem refQuote_a (s : ByteArray) (hs : s.size ≤ 140737488355328) : AC Tryz.prog 61 [.str s] (.str (quoteB s)) := by
  have z1 : (ByteArray.mk #[92, 110]).size = 2 := rfl
  have z2 : (ByteArray.mk #[92, 116]).size = 2 := rfl
  have z3 : (ByteArray.mk #[92]).size = 1 := rfl
  have z4 : (ByteArray.mk #[34]).size = 1 := rfl
  refine AC.enter Tryz.func61 a_ref04_Quote_ok a_ref04_Quote_cb (by rfl) fun E hE => ?_
  show AK _ _ _ [.c b_ref04_Quote] _ _
  rw [b_ref04_Quote]
  (repeat (first | apply kS | apply kB | apply kL | apply kN | refine kA follows_any ?_))
  refine AK.loopI (fun k : Nat => (frOf [(0, .str s), (3, .str (quoteP s k)), (4, .int .i64 k)], ⟨boxOf [], fun _ => 0⟩)) (fun k => k ≤ s.size) (fun k => s.size - k) 0 (Nat.zero_le _) (Weak.intro ⟨⟨_, rfl, .refl _⟩, ⟨_, rfl, .refl _⟩, ⟨_, rfl, .refl _⟩, trivial⟩ trivial rfl rfl) fun k hk => ?_
  have hq := quoteP_size s k
  (repeat (first | apply kS | apply kB | apply kL | apply kN | refine kA follows_any ?_))
  refine AK.cond (by rfl) (fun hb => ?_) (fun hb => ?_)
  · have hlt : k < s.size := by simpa using hb
    have hst : quoteP s (k + 1) = quoteP s k ++ quoteC s[k] := by rw [quoteP, byte_at hlt]
    have hw : (IntKind.i64.wrap ((k : Int) + 1)).toNat = k + 1 := by rw [wrap_s (by omega) (by omega)]; omega
    have hw2 : IntKind.i64.wrap ((k : Int) + 1) = (k : Int) + 1 := wrap_in (by omega) (by omega)
    have hx : s.extract (k : Int).toNat (IntKind.i64.wrap ((k : Int) + 1)).toNat = ⟨#[s[k]]⟩ := by rw [hw]; exact ext_one hlt
    have z5 : (ByteArray.mk #[s[k]]).size = 1 := rfl
    (repeat (first | apply kS | apply kB | apply kL | apply kN | refine kA follows_any ?_))
    refine kR follows_any [] (by rfl) ?_ ?_
    · ((repeat' apply And.intro) <;> first | exact kD | (intro hgd; refine ⟨?_, kG⟩; (repeat' apply And.intro) <;> first | exact kD | skip) | skip)
    rw [show s.data.getD (k : Int).toNat 0 = s[k] from byte_at hlt]
    (repeat (first | apply kS | apply kB | apply kL | apply kN | refine kA follows_any ?_))
    refine AK.cond (by rfl) (fun hb => ?_) (fun hb => ?_)
    · have e : s[k] = 10 := UInt8.toNat_inj.1 (by have : ((s[k].toNat : Nat) : Int) = 10 := by simpa using hb
                                                  show s[k].toNat = 10; omega)
      have e2 : quoteC s[k] = ⟨#[92, 110]⟩ := by rw [e]; rfl
      (repeat (first | apply kS | apply kB | apply kL | apply kN | refine kA follows_any ?_))
      refine kR follows_any [] (by rfl) ?_ ?_
      · ((repeat' apply And.intro) <;> first | exact kD | (intro hgd; refine ⟨?_, kG⟩; (repeat' apply And.intro) <;> first | exact kD | skip) | skip)
      (repeat (first | apply kS | apply kB | apply kL | apply kN | refine kA follows_any ?_))
      exact AK.lp ⟨k + 1, by omega, Weak.intro ⟨⟨_, rfl, .refl _⟩, ⟨_, rfl, .of_eq (congrArg AV.str (by rw [hst, e2]))⟩, ⟨_, rfl, .of_eq (congrArg _ (by first | omega | (rw [wrap_in (by omega) (by omega)]; omega)))⟩, trivial⟩ trivial rfl rfl, by omega⟩
    have n10 : s[k] ≠ 10 := fun e => by rw [e] at hb; cases hb
    (repeat (first | apply kS | apply kB | apply kL | apply kN | refine kA follows_any ?_))
    refine AK.cond (by rfl) (fun hb => ?_) (fun hb => ?_)
    · have e : s[k] = 9 := UInt8.toNat_inj.1 (by have : ((s[k].toNat : Nat) : Int) = 9 := by simpa using hb
                                                 show s[k].toNat = 9; omega)
      have e2 : quoteC s[k] = ⟨#[92, 116]⟩ := by rw [e]; rfl
      (repeat (first | apply kS | apply kB | apply kL | apply kN | refine kA follows_any ?_))
      refine kR follows_any [] (by rfl) ?_ ?_
      · ((repeat' apply And.intro) <;> first | exact kD | (intro hgd; refine ⟨?_, kG⟩; (repeat' apply And.intro) <;> first | exact kD | skip) | skip)
      (repeat (first | apply kS | apply kB | apply kL | apply kN | refine kA follows_any ?_))
      exact AK.lp ⟨k + 1, by omega, Weak.intro ⟨⟨_, rfl, .refl _⟩, ⟨_, rfl, .of_eq (congrArg AV.str (by rw [hst, e2]))⟩, ⟨_, rfl, .of_eq (congrArg _ (by first | omega | (rw [wrap_in (by omega) (by omega)]; omega)))⟩, trivial⟩ trivial rfl rfl, by omega⟩
    have n9 : s[k] ≠ 9 := fun e => by rw [e] at hb; cases hb
    have e3 : (s[k] = 34 ∨ s[k] = 92) → quoteC s[k] = ⟨#[92]⟩ ++ ⟨#[s[k]]⟩ := fun e => by
      rw [quoteC, if_neg n10, if_neg n9, if_pos e]
      rfl
    (repeat (first | apply kS | apply kB | apply kL | apply kN | refine kA follows_any ?_))
    refine AK.cond (by rfl) (fun hb => ?_) (fun hb => ?_)
    · have e : s[k] = 34 := UInt8.toNat_inj.1 (by have : ((s[k].toNat : Nat) : Int) = 34 := by simpa using hb
                                                  show s[k].toNat = 34; omega)
      have hb34 := hb
      (repeat (first | apply kS | apply kB | apply kL | apply kN | refine kA follows_any ?_))
      refine AK.cond (by rfl) (fun hb => ?_) (fun hb => ?_)
      · (repeat (first | apply kS | apply kB | apply kL | apply kN | refine kA follows_any ?_))
        refine kR follows_any [] (by rfl) ?_ ?_
        · ((repeat' apply And.intro) <;> first | exact kD | (intro hgd; refine ⟨?_, kG⟩; (repeat' apply And.intro) <;> first | exact kD | skip) | skip)
          all_goals first | (rw [hw2]; omega) | (rw [hx, ByteArray.size_append]; omega)
        (repeat (first | apply kS | apply kB | apply kL | apply kN | refine kA follows_any ?_))
        exact AK.lp ⟨k + 1, by omega, Weak.intro ⟨⟨_, rfl, .refl _⟩, ⟨_, rfl, .of_eq (congrArg AV.str (by rw [hst, e3 (.inl e), hx, ba_app]))⟩, ⟨_, rfl, .of_eq (congrArg _ (by first | omega | (rw [wrap_in (by omega) (by omega)]; omega)))⟩, trivial⟩ trivial rfl rfl, by omega⟩
      · rw [hb34] at hb
        cases hb
    have n34 : s[k] ≠ 34 := fun e => by rw [e] at hb; cases hb
    (repeat (first | apply kS | apply kB | apply kL | apply kN | refine kA follows_any ?_))
    refine AK.cond (by rfl) (fun hb => ?_) (fun hb => ?_)
    · have e : s[k] = 92 := UInt8.toNat_inj.1 (by have : ((s[k].toNat : Nat) : Int) = 92 := by simpa using hb
                                                  show s[k].toNat = 92; omega)
      (repeat (first | apply kS | apply kB | apply kL | apply kN | refine kA follows_any ?_))
      refine kR follows_any [] (by rfl) ?_ ?_
      · ((repeat' apply And.intro) <;> first | exact kD | (intro hgd; refine ⟨?_, kG⟩; (repeat' apply And.intro) <;> first | exact kD | skip) | skip)
        all_goals first | (rw [hw2]; omega) | (rw [hx, ByteArray.size_append]; omega)
      (repeat (first | apply kS | apply kB | apply kL | apply kN | refine kA follows_any ?_))
      exact AK.lp ⟨k + 1, by omega, Weak.intro ⟨⟨_, rfl, .refl _⟩, ⟨_, rfl, .of_eq (congrArg AV.str (by rw [hst, e3 (.inr e), hx, ba_app]))⟩, ⟨_, rfl, .of_eq (congrArg _ (by first | omega | (rw [wrap_in (by omega) (by omega)]; omega)))⟩, trivial⟩ trivial rfl rfl, by omega⟩
    have n92 : s[k] ≠ 92 := fun e => by rw [e] at hb; cases hb
    have e4 : quoteC s[k] = ⟨#[s[k]]⟩ := by rw [quoteC, if_neg n10, if_neg n9, if_neg (fun e => e.elim n34 n92)]
    (repeat (first | apply kS | apply kB | apply kL | apply kN | refine kA follows_any ?_))
    refine kR follows_any [] (by rfl) ?_ ?_
    · ((repeat' apply And.intro) <;> first | exact kD | (intro hgd; refine ⟨?_, kG⟩; (repeat' apply And.intro) <;> first | exact kD | skip) | skip)
      all_goals first | (rw [hw2]; omega) | (rw [hx]; omega)
    (repeat (first | apply kS | apply kB | apply kL | apply kN | refine kA follows_any ?_))
    exact AK.lp ⟨k + 1, by omega, Weak.intro ⟨⟨_, rfl, .refl _⟩, ⟨_, rfl, .of_eq (congrArg AV.str (by rw [hst, e4, hx]))⟩, ⟨_, rfl, .of_eq (congrArg _ (by first | omega | (rw [wrap_in (by omega) (by omega)]; omega)))⟩, trivial⟩ trivial rfl rfl, by omega⟩
  · have hlt : k = s.size := by have : s.size ≤ k := by simpa using hb
                                omega
    subst hlt
    refine AK.exit rfl ?_
    (repeat (first | apply kS | apply kB | apply kL | apply kN | refine kA follows_any ?_))
    refine kR follows_any [] (by rfl) ?_ ?_
    · ((repeat' apply And.intro) <;> first | exact kD | (intro hgd; refine ⟨?_, kG⟩; (repeat' apply And.intro) <;> first | exact kD | skip) | skip)
    (repeat (first | apply kS | apply kB | apply kL | apply kN | refine kA follows_any ?_))
    refine AK.ret ⟨_, rfl, ?_⟩
    rfl
end Go.Proofs.YtgekcnpfflhpkaaGreatDoor
