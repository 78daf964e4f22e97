/-
  The program's comparison of values: plainly, and walked.
-/
import Derived.Test.YtgcodocajgdmcaaGreatDoorPr3
namespace Go.Proofs.YtgcodocajgdmcaaGreatDoor
set_option linter.unusedSimpArgs false
set_option linter.unusedVariables false
open Go.RowKit

def cmpI (a b : Int) : Int := if a < b then -1 else if b < a then 1 else 0
def cmpBo (a b : Bool) : Int := if (a == b) = true then 0 else if b = true then -1 else 1
def cmpOr (c d : Int) : Int := if c ≠ 0 then c else d
mutual
def V.cmpC : V → V → Int
  | .mk k b n s l m, w => if cmpI k w.kind ≠ 0 then cmpI k w.kind else if k = 1 then cmpBo b w.b else if k = 2 then cmpI n w.n else if k = 3 then cmpS s w.s else if k = 4 then cmpL l w.l else if k = 5 then cmpM m w.m else 0
def cmpL : List V → List V → Int
  | [], [] => 0
  | [], _ :: _ => -1
  | _ :: _, [] => 1
  | x :: l, y :: w => if x.cmpC y ≠ 0 then x.cmpC y else cmpL l w
def cmpM : List (ByteArray × V) → List (ByteArray × V) → Int
  | [], [] => 0
  | [], _ :: _ => -1
  | _ :: _, [] => 1
  | (p, x) :: l, (q, y) :: w => if cmpOr (cmpS p q) (x.cmpC y) ≠ 0 then cmpOr (cmpS p q) (x.cmpC y) else cmpM l w
end
theorem V.cmpC_eq (v w : V) : v.cmpC w = if cmpI v.kind w.kind ≠ 0 then cmpI v.kind w.kind else if v.kind = 1 then cmpBo v.b w.b else if v.kind = 2 then cmpI v.n w.n else if v.kind = 3 then cmpS v.s w.s else if v.kind = 4 then cmpL v.l w.l else if v.kind = 5 then cmpM v.m w.m else 0 := by
  cases v; rw [V.cmpC]; rfl
theorem cmpI_eq {a b : Int} : cmpI a b = 0 ↔ a = b := by
  unfold cmpI
  split
  · simp; omega
  · split
    · simp; omega
    · simp; omega
theorem cmpBo_eq {a b : Bool} : cmpBo a b = 0 ↔ a = b := by cases a <;> cases b <;> simp [cmpBo]
theorem cmp_eq_all (n : Nat) : ∀ a b : V, a.size ≤ n → a.good → b.good → (a.cmpC b = 0 ↔ a = b) := by
  induction n with
  | zero => intro v _ h; have := v.size_pos; omega
  | succ n ih =>
    intro a b hn ha hb
    have e := a.size_eq
    have ka := (a.good_eq.1 ha).1
    have kb := (b.good_eq.1 hb).1
    have hL : ∀ l w : List V, sizeL l ≤ n → (∀ x ∈ l, x.good) → (∀ x ∈ w, x.good) → (cmpL l w = 0 ↔ l = w) := by
      intro l
      induction l with
      | nil => intro w _ _ _; cases w <;> simp [cmpL]
      | cons x l ihl =>
        intro w hs h1 h2
        simp only [sizeL] at hs
        cases w with
        | nil => simp [cmpL]
        | cons y w =>
          have i1 := ih x y (by omega) (h1 x (by simp)) (h2 y (by simp))
          have i2 := ihl w (by omega) (fun z hz => h1 z (by simp [hz])) (fun z hz => h2 z (by simp [hz]))
          rw [cmpL]
          split
          · rename_i h
            constructor
            · intro h'; exact absurd h' h
            · intro h'; cases h'; exact absurd (i1.2 rfl) h
          · rename_i h
            obtain rfl := i1.1 (by simpa using h)
            simp [i2]
    have hM : ∀ l w : List (ByteArray × V), sizeM l ≤ n → (∀ p ∈ l, p.2.good) → (∀ p ∈ w, p.2.good) → (cmpM l w = 0 ↔ l = w) := by
      intro l
      induction l with
      | nil => intro w _ _ _; cases w <;> simp [cmpM]
      | cons p l ihl =>
        obtain ⟨p, x⟩ := p
        intro w hs h1 h2
        simp only [sizeM] at hs
        cases w with
        | nil => simp [cmpM]
        | cons q w =>
          obtain ⟨q, y⟩ := q
          have i1 := ih x y (by omega) (h1 (p, x) (by simp)) (h2 (q, y) (by simp))
          have i2 := ihl w (by omega) (fun z hz => h1 z (by simp [hz])) (fun z hz => h2 z (by simp [hz]))
          have i3 : cmpOr (cmpS p q) (x.cmpC y) = 0 ↔ p = q ∧ x = y := by
            unfold cmpOr
            split
            · rename_i h
              constructor
              · intro h'; exact absurd h' h
              · intro h'; exact absurd (cmpS_eq.2 h'.1) h
            · rename_i h
              have := cmpS_eq.1 (show cmpS p q = 0 by simpa using h)
              simp [i1, this]
          rw [cmpM]
          split
          · rename_i h
            constructor
            · intro h'; exact absurd h' h
            · intro h'; cases h'; exact absurd (i3.2 ⟨rfl, rfl⟩) h
          · rename_i h
            obtain ⟨rfl, rfl⟩ := i3.1 (Decidable.not_not.1 h)
            simp [i2]
    have iL := hL a.l b.l (by omega) (fun x hx => good_l ha hx) (fun x hx => good_l hb hx)
    have iM := hM a.m b.m (by omega) (fun x hx => good_m ha hx) (fun x hx => good_m hb hx)
    rw [V.cmpC_eq, V.ext_iff']
    simp only [kbad, Bool.or_eq_false_iff, Bool.and_eq_false_iff, decide_eq_false_iff_not, Decidable.not_not, Nat.not_lt, Nat.le_zero, List.length_eq_zero_iff] at ka kb
    obtain ⟨⟨⟨⟨⟨⟨a0, a00⟩, a1⟩, a2⟩, a3⟩, a4⟩, a5⟩ := ka
    obtain ⟨⟨⟨⟨⟨⟨b0, b00⟩, b1⟩, b2⟩, b3⟩, b4⟩, b5⟩ := kb
    split
    · rename_i h
      constructor
      · intro h'; exact absurd h' h
      · rintro ⟨h', _⟩; exact absurd (cmpI_eq.2 h') h
    · rename_i h
      have hk : a.kind = b.kind := cmpI_eq.1 (by simpa using h)
      have := @cmpBo_eq a.b b.b
      have := @cmpI_eq a.n b.n
      have := @cmpS_eq a.s b.s
      rw [← hk] at b1 b2 b3 b4 b5 ⊢
      have hkk : a.kind = 0 ∨ a.kind = 1 ∨ a.kind = 2 ∨ a.kind = 3 ∨ a.kind = 4 ∨ a.kind = 5 := by omega
      clear ih hL hM hn e ha hb h hk b0 b00 a0 a00
      rcases hkk with h0 | h0 | h0 | h0 | h0 | h0 <;> simp [h0] at a1 a2 a3 a4 a5 b1 b2 b3 b4 b5 ⊢ <;> simp [*]
theorem V.cmp_eq {a b : V} (ha : a.good) (hb : b.good) : a.cmpC b = 0 ↔ a = b := cmp_eq_all a.size a b (Nat.le_refl _) ha hb
theorem V.cmp_same {a b : V} (ha : a.good) (hb : b.good) : decide (a.cmpC b = 0) = a.sameB b := by
  rw [V.sameB, decide_eq_decide]; exact V.cmp_eq ha hb
end Go.Proofs.YtgcodocajgdmcaaGreatDoor
/-
  The program's comparison of values, walked.
-/
namespace Go.Proofs.YtgcodocajgdmcaaGreatDoor
set_option linter.unusedSimpArgs false
set_option linter.unusedVariables false
open Go.RowKit

theorem isNaN_a (n : Int) : AC Tryz.prog 130 [.int .i64 n] (.bool false) := by
  refine AC.enter Tryz.func130 a_cmp_isNaN_int_ok a_cmp_isNaN_int_cb (by rfl) fun E hE => ?_
  show AK _ _ _ [.c b_cmp_isNaN_int] _ _
  rw [b_cmp_isNaN_int]
  (repeat (first | apply AK.seq | apply AK.block | apply AK.blk | apply AK.skip | (refine AK.reg follows_any (rs := []) (by rfl) ?_ ?_; first | exact trivial | exact ⟨trivial, trivial⟩ | exact ⟨trivial, trivial, trivial⟩ | exact ⟨trivial, trivial, trivial, trivial⟩ | fail) | fail))
  refine AK.ret ⟨_, rfl, ?_⟩
  exact congrArg AV.bool (by simp)
theorem isNaN64_a (n : Int) : AC Tryz.prog 140 [.int .i64 n] (.bool false) := by
  refine AC.enter Tryz.func140 a_cmp_isNaN_int64_ok a_cmp_isNaN_int64_cb (by rfl) fun E hE => ?_
  show AK _ _ _ [.c b_cmp_isNaN_int64] _ _
  rw [b_cmp_isNaN_int64]
  (repeat (first | apply AK.seq | apply AK.block | apply AK.blk | apply AK.skip | (refine AK.reg follows_any (rs := []) (by rfl) ?_ ?_; first | exact trivial | exact ⟨trivial, trivial⟩ | exact ⟨trivial, trivial, trivial⟩ | exact ⟨trivial, trivial, trivial, trivial⟩ | fail) | fail))
  refine AK.ret ⟨_, rfl, ?_⟩
  exact congrArg AV.bool (by simp)
theorem cmpInt_a (a b : Int) : AC Tryz.prog 92 [.int .i64 a, .int .i64 b] (.int .i64 (cmpI a b)) := by
  refine AC.enter Tryz.func92 a_cmp_Compare_int_ok a_cmp_Compare_int_cb (by rfl) fun E hE => ?_
  show AK _ _ _ [.c b_cmp_Compare_int] _ _
  rw [b_cmp_Compare_int]
  (repeat (first | apply AK.seq | apply AK.block | apply AK.blk | apply AK.skip | (refine AK.reg follows_any (rs := []) (by rfl) ?_ ?_; first | exact trivial | exact ⟨trivial, trivial⟩ | exact ⟨trivial, trivial, trivial⟩ | exact ⟨trivial, trivial, trivial, trivial⟩ | fail) | fail))
  refine AK.reg follows_any (rs := [.v (.bool false)]) (by rfl) ?_ ?_
  · ((repeat' apply And.intro) <;> first | trivial | omega | (simp only [List.length_nil, List.length_cons]; omega) | (intro hgd; first | (rw [hgd]; rfl) | (refine ⟨?_, by repeat (first | exact trivial | refine ⟨hgd, ?_⟩)⟩; (repeat' apply And.intro) <;> first | trivial | omega | (intro h2; rw [hgd, h2]; rfl) | skip)) | skip)
    · exact isNaN_a a
  (repeat (first | apply AK.seq | apply AK.block | apply AK.blk | apply AK.skip | (refine AK.reg follows_any (rs := []) (by rfl) ?_ ?_; first | exact trivial | exact ⟨trivial, trivial⟩ | exact ⟨trivial, trivial, trivial⟩ | exact ⟨trivial, trivial, trivial, trivial⟩ | fail) | fail))
  refine AK.reg follows_any (rs := [.v (.bool false)]) (by rfl) ?_ ?_
  · ((repeat' apply And.intro) <;> first | trivial | omega | (simp only [List.length_nil, List.length_cons]; omega) | (intro hgd; first | (rw [hgd]; rfl) | (refine ⟨?_, by repeat (first | exact trivial | refine ⟨hgd, ?_⟩)⟩; (repeat' apply And.intro) <;> first | trivial | omega | (intro h2; rw [hgd, h2]; rfl) | skip)) | skip)
    · exact isNaN_a b
  (repeat (first | apply AK.seq | apply AK.block | apply AK.blk | apply AK.skip | (refine AK.reg follows_any (rs := []) (by rfl) ?_ ?_; first | exact trivial | exact ⟨trivial, trivial⟩ | exact ⟨trivial, trivial, trivial⟩ | exact ⟨trivial, trivial, trivial, trivial⟩ | fail) | fail))
  refine AK.cond (by rfl) (fun hb => ?_) (fun hb => ?_)
  · cases hb
  (repeat (first | apply AK.seq | apply AK.block | apply AK.blk | apply AK.skip | (refine AK.reg follows_any (rs := []) (by rfl) ?_ ?_; first | exact trivial | exact ⟨trivial, trivial⟩ | exact ⟨trivial, trivial, trivial⟩ | exact ⟨trivial, trivial, trivial, trivial⟩ | fail) | fail))
  refine AK.cond (by rfl) (fun hb => ?_) (fun hb => ?_)
  · cases hb
  (repeat (first | apply AK.seq | apply AK.block | apply AK.blk | apply AK.skip | (refine AK.reg follows_any (rs := []) (by rfl) ?_ ?_; first | exact trivial | exact ⟨trivial, trivial⟩ | exact ⟨trivial, trivial, trivial⟩ | exact ⟨trivial, trivial, trivial, trivial⟩ | fail) | fail))
  refine AK.cond (by rfl) (fun hb => ?_) (fun hb => ?_)
  · have h : a < b := by simpa using hb
    (repeat (first | apply AK.seq | apply AK.block | apply AK.blk | apply AK.skip | (refine AK.reg follows_any (rs := []) (by rfl) ?_ ?_; first | exact trivial | exact ⟨trivial, trivial⟩ | exact ⟨trivial, trivial, trivial⟩ | exact ⟨trivial, trivial, trivial, trivial⟩ | fail) | fail))
    refine AK.ret ⟨_, rfl, ?_⟩
    exact congrArg (AV.int _) (by rw [cmpI, if_pos h])
  have h : ¬ a < b := by simpa using hb
  (repeat (first | apply AK.seq | apply AK.block | apply AK.blk | apply AK.skip | (refine AK.reg follows_any (rs := []) (by rfl) ?_ ?_; first | exact trivial | exact ⟨trivial, trivial⟩ | exact ⟨trivial, trivial, trivial⟩ | exact ⟨trivial, trivial, trivial, trivial⟩ | fail) | fail))
  refine AK.cond (by rfl) (fun hb => ?_) (fun hb => ?_)
  · have h2 : b < a := by simpa using hb
    (repeat (first | apply AK.seq | apply AK.block | apply AK.blk | apply AK.skip | (refine AK.reg follows_any (rs := []) (by rfl) ?_ ?_; first | exact trivial | exact ⟨trivial, trivial⟩ | exact ⟨trivial, trivial, trivial⟩ | exact ⟨trivial, trivial, trivial, trivial⟩ | fail) | fail))
    refine AK.ret ⟨_, rfl, ?_⟩
    exact congrArg (AV.int _) (by rw [cmpI, if_neg h, if_pos h2])
  have h2 : ¬ b < a := by simpa using hb
  (repeat (first | apply AK.seq | apply AK.block | apply AK.blk | apply AK.skip | (refine AK.reg follows_any (rs := []) (by rfl) ?_ ?_; first | exact trivial | exact ⟨trivial, trivial⟩ | exact ⟨trivial, trivial, trivial⟩ | exact ⟨trivial, trivial, trivial, trivial⟩ | fail) | fail))
  refine AK.ret ⟨_, rfl, ?_⟩
  exact congrArg (AV.int _) (by rw [cmpI, if_neg h, if_neg h2])
theorem cmpInt64_a (a b : Int) : AC Tryz.prog 102 [.int .i64 a, .int .i64 b] (.int .i64 (cmpI a b)) := by
  refine AC.enter Tryz.func102 a_cmp_Compare_int64_ok a_cmp_Compare_int64_cb (by rfl) fun E hE => ?_
  show AK _ _ _ [.c b_cmp_Compare_int64] _ _
  rw [b_cmp_Compare_int64]
  (repeat (first | apply AK.seq | apply AK.block | apply AK.blk | apply AK.skip | (refine AK.reg follows_any (rs := []) (by rfl) ?_ ?_; first | exact trivial | exact ⟨trivial, trivial⟩ | exact ⟨trivial, trivial, trivial⟩ | exact ⟨trivial, trivial, trivial, trivial⟩ | fail) | fail))
  refine AK.reg follows_any (rs := [.v (.bool false)]) (by rfl) ?_ ?_
  · ((repeat' apply And.intro) <;> first | trivial | omega | (simp only [List.length_nil, List.length_cons]; omega) | (intro hgd; first | (rw [hgd]; rfl) | (refine ⟨?_, by repeat (first | exact trivial | refine ⟨hgd, ?_⟩)⟩; (repeat' apply And.intro) <;> first | trivial | omega | (intro h2; rw [hgd, h2]; rfl) | skip)) | skip)
    · exact isNaN64_a a
  (repeat (first | apply AK.seq | apply AK.block | apply AK.blk | apply AK.skip | (refine AK.reg follows_any (rs := []) (by rfl) ?_ ?_; first | exact trivial | exact ⟨trivial, trivial⟩ | exact ⟨trivial, trivial, trivial⟩ | exact ⟨trivial, trivial, trivial, trivial⟩ | fail) | fail))
  refine AK.reg follows_any (rs := [.v (.bool false)]) (by rfl) ?_ ?_
  · ((repeat' apply And.intro) <;> first | trivial | omega | (simp only [List.length_nil, List.length_cons]; omega) | (intro hgd; first | (rw [hgd]; rfl) | (refine ⟨?_, by repeat (first | exact trivial | refine ⟨hgd, ?_⟩)⟩; (repeat' apply And.intro) <;> first | trivial | omega | (intro h2; rw [hgd, h2]; rfl) | skip)) | skip)
    · exact isNaN64_a b
  (repeat (first | apply AK.seq | apply AK.block | apply AK.blk | apply AK.skip | (refine AK.reg follows_any (rs := []) (by rfl) ?_ ?_; first | exact trivial | exact ⟨trivial, trivial⟩ | exact ⟨trivial, trivial, trivial⟩ | exact ⟨trivial, trivial, trivial, trivial⟩ | fail) | fail))
  refine AK.cond (by rfl) (fun hb => ?_) (fun hb => ?_)
  · cases hb
  (repeat (first | apply AK.seq | apply AK.block | apply AK.blk | apply AK.skip | (refine AK.reg follows_any (rs := []) (by rfl) ?_ ?_; first | exact trivial | exact ⟨trivial, trivial⟩ | exact ⟨trivial, trivial, trivial⟩ | exact ⟨trivial, trivial, trivial, trivial⟩ | fail) | fail))
  refine AK.cond (by rfl) (fun hb => ?_) (fun hb => ?_)
  · cases hb
  (repeat (first | apply AK.seq | apply AK.block | apply AK.blk | apply AK.skip | (refine AK.reg follows_any (rs := []) (by rfl) ?_ ?_; first | exact trivial | exact ⟨trivial, trivial⟩ | exact ⟨trivial, trivial, trivial⟩ | exact ⟨trivial, trivial, trivial, trivial⟩ | fail) | fail))
  refine AK.cond (by rfl) (fun hb => ?_) (fun hb => ?_)
  · have h : a < b := by simpa using hb
    (repeat (first | apply AK.seq | apply AK.block | apply AK.blk | apply AK.skip | (refine AK.reg follows_any (rs := []) (by rfl) ?_ ?_; first | exact trivial | exact ⟨trivial, trivial⟩ | exact ⟨trivial, trivial, trivial⟩ | exact ⟨trivial, trivial, trivial, trivial⟩ | fail) | fail))
    refine AK.ret ⟨_, rfl, ?_⟩
    exact congrArg (AV.int _) (by rw [cmpI, if_pos h])
  have h : ¬ a < b := by simpa using hb
  (repeat (first | apply AK.seq | apply AK.block | apply AK.blk | apply AK.skip | (refine AK.reg follows_any (rs := []) (by rfl) ?_ ?_; first | exact trivial | exact ⟨trivial, trivial⟩ | exact ⟨trivial, trivial, trivial⟩ | exact ⟨trivial, trivial, trivial, trivial⟩ | fail) | fail))
  refine AK.cond (by rfl) (fun hb => ?_) (fun hb => ?_)
  · have h2 : b < a := by simpa using hb
    (repeat (first | apply AK.seq | apply AK.block | apply AK.blk | apply AK.skip | (refine AK.reg follows_any (rs := []) (by rfl) ?_ ?_; first | exact trivial | exact ⟨trivial, trivial⟩ | exact ⟨trivial, trivial, trivial⟩ | exact ⟨trivial, trivial, trivial, trivial⟩ | fail) | fail))
    refine AK.ret ⟨_, rfl, ?_⟩
    exact congrArg (AV.int _) (by rw [cmpI, if_neg h, if_pos h2])
  have h2 : ¬ b < a := by simpa using hb
  (repeat (first | apply AK.seq | apply AK.block | apply AK.blk | apply AK.skip | (refine AK.reg follows_any (rs := []) (by rfl) ?_ ?_; first | exact trivial | exact ⟨trivial, trivial⟩ | exact ⟨trivial, trivial, trivial⟩ | exact ⟨trivial, trivial, trivial, trivial⟩ | fail) | fail))
  refine AK.ret ⟨_, rfl, ?_⟩
  exact congrArg (AV.int _) (by rw [cmpI, if_neg h, if_neg h2])

theorem cmpOr_a (c d : Int) : AC Tryz.prog 91 [.lst .any 1 [[.int .i64 c], [.int .i64 d]]] (.int .i64 (cmpOr c d)) := by
  refine AC.enter Tryz.func91 a_cmp_Or_int_ok a_cmp_Or_int_cb (by rfl) fun E hE => ?_
  show AK _ _ _ [.c b_cmp_Or_int] _ _
  rw [b_cmp_Or_int]
  (repeat (first | apply AK.seq | apply AK.block | apply AK.blk | apply AK.skip | (refine AK.reg follows_any (rs := []) (by rfl) ?_ ?_; first | exact trivial | exact ⟨trivial, trivial⟩ | exact ⟨trivial, trivial, trivial⟩ | exact ⟨trivial, trivial, trivial, trivial⟩ | fail) | fail))
  refine AK.loopI (fun k : Nat => (frOf [(3, .int .i64 0), (6, .lst .any 1 [[.int .i64 c], [.int .i64 d]]), (7, .int .i64 2), (8, .int .i64 k)], ⟨boxOf [], fun _ => 0⟩)) (fun k => k ≤ 2 ∧ (0 < k → c = 0) ∧ (1 < k → d = 0)) (fun k => 2 - k) 0 ⟨by omega, by omega, by omega⟩ (Weak.intro ⟨⟨_, rfl, .refl _⟩, ⟨_, rfl, .refl _⟩, ⟨_, rfl, .refl _⟩, ⟨_, rfl, .refl _⟩, trivial⟩ trivial rfl rfl) fun k ⟨hk, h1, h2⟩ => ?_
  (repeat (first | apply AK.seq | apply AK.block | apply AK.blk | apply AK.skip | (refine AK.reg follows_any (rs := []) (by rfl) ?_ ?_; first | exact trivial | exact ⟨trivial, trivial⟩ | exact ⟨trivial, trivial, trivial⟩ | exact ⟨trivial, trivial, trivial, trivial⟩ | fail) | fail))
  refine AK.cond (by rfl) (fun hb => ?_) (fun hb => ?_)
  · have hlt : k < 2 := by
      have : (k : Int) < 2 := by simpa using hb
      omega
    obtain ⟨n, hn, hc⟩ : ∃ n, [[AV.int IntKind.i64 c], [AV.int IntKind.i64 d]][k]? = some [.int .i64 n] ∧ (n ≠ 0 → cmpOr c d = n) ∧ (n = 0 → (0 < k + 1 → c = 0) ∧ (1 < k + 1 → d = 0)) := by
      obtain rfl | rfl : k = 0 ∨ k = 1 := by omega
      · exact ⟨c, rfl, fun h => by rw [cmpOr, if_pos h], fun h => ⟨fun _ => h, fun h => by omega⟩⟩
      · have := h1 (by omega)
        exact ⟨d, rfl, fun h => by rw [cmpOr, if_neg (by simp [this])], fun h => ⟨fun _ => this, fun _ => h⟩⟩
    (repeat (first | apply AK.seq | apply AK.block | apply AK.blk | apply AK.skip | (refine AK.reg follows_any (rs := []) (by rfl) ?_ ?_; first | exact trivial | exact ⟨trivial, trivial⟩ | exact ⟨trivial, trivial, trivial⟩ | exact ⟨trivial, trivial, trivial, trivial⟩ | fail) | fail))
    refine AK.reg follows_any (rs := [.c [.int .i64 n]]) (by rfl) ?_ ?_
    · ((repeat' apply And.intro) <;> first | trivial | omega | (simp only [List.length_nil, List.length_cons]; omega) | (intro hgd; first | (rw [hgd]; rfl) | (refine ⟨?_, by repeat (first | exact trivial | refine ⟨hgd, ?_⟩)⟩; (repeat' apply And.intro) <;> first | trivial | omega | (intro h2; rw [hgd, h2]; rfl) | skip)) | skip)
    (repeat (first | apply AK.seq | apply AK.block | apply AK.blk | apply AK.skip | (refine AK.reg follows_any (rs := []) (by rfl) ?_ ?_; first | exact trivial | exact ⟨trivial, trivial⟩ | exact ⟨trivial, trivial, trivial⟩ | exact ⟨trivial, trivial, trivial, trivial⟩ | fail) | fail))
    refine AK.cond (by rfl) (fun hb => ?_) (fun hb => ?_)
    · have h : n ≠ 0 := by simpa using hb
      (repeat (first | apply AK.seq | apply AK.block | apply AK.blk | apply AK.skip | (refine AK.reg follows_any (rs := []) (by rfl) ?_ ?_; first | exact trivial | exact ⟨trivial, trivial⟩ | exact ⟨trivial, trivial, trivial⟩ | exact ⟨trivial, trivial, trivial, trivial⟩ | fail) | fail))
      refine AK.ret ⟨_, rfl, ?_⟩
      exact congrArg (AV.int _) (hc.1 h).symm
    · have h : n = 0 := by simpa using hb
      (repeat (first | apply AK.seq | apply AK.block | apply AK.blk | apply AK.skip | (refine AK.reg follows_any (rs := []) (by rfl) ?_ ?_; first | exact trivial | exact ⟨trivial, trivial⟩ | exact ⟨trivial, trivial, trivial⟩ | exact ⟨trivial, trivial, trivial, trivial⟩ | fail) | fail))
      exact AK.lp ⟨k + 1, ⟨by omega, (hc.2 h).1, (hc.2 h).2⟩, Weak.intro ⟨⟨_, rfl, .refl _⟩, ⟨_, rfl, .refl _⟩, ⟨_, rfl, .refl _⟩, ⟨_, rfl, .of_eq (congrArg _ (by first | omega | (rw [wrap_in (by omega) (by omega)]; omega)))⟩, trivial⟩ trivial rfl rfl, by omega⟩
  · have hlt : k = 2 := by
      have : (2 : Int) ≤ k := by simpa using hb
      omega
    subst hlt
    refine AK.exit rfl ?_
    (repeat (first | apply AK.seq | apply AK.block | apply AK.blk | apply AK.skip | (refine AK.reg follows_any (rs := []) (by rfl) ?_ ?_; first | exact trivial | exact ⟨trivial, trivial⟩ | exact ⟨trivial, trivial, trivial⟩ | exact ⟨trivial, trivial, trivial, trivial⟩ | fail) | fail))
    refine AK.ret ⟨_, rfl, ?_⟩
    exact congrArg (AV.int _) (by rw [cmpOr, if_neg (by simp [h1 (by omega)]), h2 (by omega)])

theorem cmpL_drop {l w : List V} {k : Nat} {x y : V} (hx : l[k]? = some x) (hy : w[k]? = some y) : cmpL (l.drop k) (w.drop k) = if x.cmpC y ≠ 0 then x.cmpC y else cmpL (l.drop (k + 1)) (w.drop (k + 1)) := by
  rw [drop_at hx, drop_at hy, cmpL]
theorem cmpM_drop {l w : List (ByteArray × V)} {k : Nat} {p q : ByteArray} {x y : V} (hx : l[k]? = some (p, x)) (hy : w[k]? = some (q, y)) :
    cmpM (l.drop k) (w.drop k) = if cmpOr (cmpS p q) (x.cmpC y) ≠ 0 then cmpOr (cmpS p q) (x.cmpC y) else cmpM (l.drop (k + 1)) (w.drop (k + 1)) := by
  rw [drop_at hx, drop_at hy, cmpM]
theorem cmpFuncV_a (l w : List V) (hl : l.length ≤ 2000000000000) (hw : w.length ≤ 2000000000000) (h : ∀ x ∈ l, ∀ y ∈ w, AC Tryz.prog 66 [.agg [.int .i64 (x).kind, .bool (x).b, .int .i64 (x).n, .str (x).s, .lst .any 6 (rowsV (x).l), .lst .any 7 (rowsM (x).m)], .agg [.int .i64 (y).kind, .bool (y).b, .int .i64 (y).n, .str (y).s, .lst .any 6 (rowsV (y).l), .lst .any 7 (rowsM (y).m)]] (.int .i64 (x.cmpC y))) :
    AC Tryz.prog 103 [.lst .any 6 (rowsV l), .lst .any 6 (rowsV w), .fn 66 []] (.int .i64 (cmpL l w)) := by
  refine AC.enter Tryz.func103 a_slices_CompareFunc_Value_ok a_slices_CompareFunc_Value_cb (by rfl) fun E hE => ?_
  show AK _ _ _ [.c b_slices_CompareFunc_Value] _ _
  rw [b_slices_CompareFunc_Value]
  (repeat (first | apply AK.seq | apply AK.block | apply AK.blk | apply AK.skip | (refine AK.reg follows_any (rs := []) (by rfl) ?_ ?_; first | exact trivial | exact ⟨trivial, trivial⟩ | exact ⟨trivial, trivial, trivial⟩ | exact ⟨trivial, trivial, trivial, trivial⟩ | fail) | fail))
  refine AK.loopI (fun k : Nat => (frOf [(0, .lst .any 6 (rowsV l)), (1, .lst .any 6 (rowsV w)), (2, .fn 66 []), (11, .lst .any 6 (rowsV l)), (12, .int .i64 (rowsV l).length), (13, .int .i64 k)], ⟨boxOf [], fun _ => 0⟩)) (fun k => k ≤ l.length ∧ k ≤ w.length ∧ cmpL (l.drop k) (w.drop k) = cmpL l w) (fun k => l.length - k) 0 ⟨by omega, by omega, rfl⟩ (Weak.intro ⟨⟨_, rfl, .refl _⟩, ⟨_, rfl, .refl _⟩, ⟨_, rfl, .refl _⟩, ⟨_, rfl, .refl _⟩, ⟨_, rfl, .refl _⟩, ⟨_, rfl, .refl _⟩, trivial⟩ trivial rfl rfl) fun k ⟨hk, hkw, hr⟩ => ?_
  (repeat (first | apply AK.seq | apply AK.block | apply AK.blk | apply AK.skip | (refine AK.reg follows_any (rs := []) (by rfl) ?_ ?_; first | exact trivial | exact ⟨trivial, trivial⟩ | exact ⟨trivial, trivial, trivial⟩ | exact ⟨trivial, trivial, trivial, trivial⟩ | fail) | fail))
  refine AK.cond (by rfl) (fun hb => ?_) (fun hb => ?_)
  · have hlt : k < l.length := by simpa [rowsV_len] using hb
    obtain ⟨x, hg⟩ : ∃ x, l[k]? = some x := ⟨_, List.getElem?_eq_getElem hlt⟩
    (repeat (first | apply AK.seq | apply AK.block | apply AK.blk | apply AK.skip | (refine AK.reg follows_any (rs := []) (by rfl) ?_ ?_; first | exact trivial | exact ⟨trivial, trivial⟩ | exact ⟨trivial, trivial, trivial⟩ | exact ⟨trivial, trivial, trivial, trivial⟩ | fail) | fail))
    refine AK.reg follows_any (rs := [.c [.int .i64 (x).kind, .bool (x).b, .int .i64 (x).n, .str (x).s, .lst .any 6 (rowsV (x).l), .lst .any 7 (rowsM (x).m)]]) (by rfl) ?_ ?_
    · ((repeat' apply And.intro) <;> first | trivial | omega | (simp only [List.length_nil, List.length_cons]; omega) | (intro hgd; first | (rw [hgd]; rfl) | (refine ⟨?_, by repeat (first | exact trivial | refine ⟨hgd, ?_⟩)⟩; (repeat' apply And.intro) <;> first | trivial | omega | (intro h2; rw [hgd, h2]; rfl) | skip)) | skip)
      · exact rowsV_at hg
    (repeat (first | apply AK.seq | apply AK.block | apply AK.blk | apply AK.skip | (refine AK.reg follows_any (rs := []) (by rfl) ?_ ?_; first | exact trivial | exact ⟨trivial, trivial⟩ | exact ⟨trivial, trivial, trivial⟩ | exact ⟨trivial, trivial, trivial, trivial⟩ | fail) | fail))
    refine AK.cond (by rfl) (fun hb => ?_) (fun hb => ?_)
    · have hge : w.length ≤ k := by simpa [rowsV_len] using hb
      rw [drop_at hg, List.drop_eq_nil_of_le hge, cmpL] at hr
      (repeat (first | apply AK.seq | apply AK.block | apply AK.blk | apply AK.skip | (refine AK.reg follows_any (rs := []) (by rfl) ?_ ?_; first | exact trivial | exact ⟨trivial, trivial⟩ | exact ⟨trivial, trivial, trivial⟩ | exact ⟨trivial, trivial, trivial, trivial⟩ | fail) | fail))
      refine AK.ret ⟨_, rfl, ?_⟩
      exact congrArg (AV.int _) hr
    have hlt2 : k < w.length := by simpa [rowsV_len] using hb
    obtain ⟨y, hy⟩ : ∃ x, w[k]? = some x := ⟨_, List.getElem?_eq_getElem hlt2⟩
    rw [cmpL_drop hg hy] at hr
    (repeat (first | apply AK.seq | apply AK.block | apply AK.blk | apply AK.skip | (refine AK.reg follows_any (rs := []) (by rfl) ?_ ?_; first | exact trivial | exact ⟨trivial, trivial⟩ | exact ⟨trivial, trivial, trivial⟩ | exact ⟨trivial, trivial, trivial, trivial⟩ | fail) | fail))
    refine AK.reg follows_any (rs := [.c [.int .i64 (y).kind, .bool (y).b, .int .i64 (y).n, .str (y).s, .lst .any 6 (rowsV (y).l), .lst .any 7 (rowsM (y).m)]]) (by rfl) ?_ ?_
    · ((repeat' apply And.intro) <;> first | trivial | omega | (simp only [List.length_nil, List.length_cons]; omega) | (intro hgd; first | (rw [hgd]; rfl) | (refine ⟨?_, by repeat (first | exact trivial | refine ⟨hgd, ?_⟩)⟩; (repeat' apply And.intro) <;> first | trivial | omega | (intro h2; rw [hgd, h2]; rfl) | skip)) | skip)
      · exact rowsV_at hy
    (repeat (first | apply AK.seq | apply AK.block | apply AK.blk | apply AK.skip | (refine AK.reg follows_any (rs := []) (by rfl) ?_ ?_; first | exact trivial | exact ⟨trivial, trivial⟩ | exact ⟨trivial, trivial, trivial⟩ | exact ⟨trivial, trivial, trivial, trivial⟩ | fail) | fail))
    refine AK.reg follows_any (rs := [.v (.int .i64 (x.cmpC y))]) (by rfl) ?_ ?_
    · ((repeat' apply And.intro) <;> first | trivial | omega | (simp only [List.length_nil, List.length_cons]; omega) | (intro hgd; first | (rw [hgd]; rfl) | (refine ⟨?_, by repeat (first | exact trivial | refine ⟨hgd, ?_⟩)⟩; (repeat' apply And.intro) <;> first | trivial | omega | (intro h2; rw [hgd, h2]; rfl) | skip)) | skip)
      · exact h x (List.mem_of_getElem? hg) y (List.mem_of_getElem? hy)
    (repeat (first | apply AK.seq | apply AK.block | apply AK.blk | apply AK.skip | (refine AK.reg follows_any (rs := []) (by rfl) ?_ ?_; first | exact trivial | exact ⟨trivial, trivial⟩ | exact ⟨trivial, trivial, trivial⟩ | exact ⟨trivial, trivial, trivial, trivial⟩ | fail) | fail))
    refine AK.cond (by rfl) (fun hb => ?_) (fun hb => ?_)
    · have he : x.cmpC y ≠ 0 := by simpa using hb
      rw [if_pos he] at hr
      (repeat (first | apply AK.seq | apply AK.block | apply AK.blk | apply AK.skip | (refine AK.reg follows_any (rs := []) (by rfl) ?_ ?_; first | exact trivial | exact ⟨trivial, trivial⟩ | exact ⟨trivial, trivial, trivial⟩ | exact ⟨trivial, trivial, trivial, trivial⟩ | fail) | fail))
      refine AK.ret ⟨_, rfl, ?_⟩
      exact congrArg (AV.int _) hr
    · have he : ¬ x.cmpC y ≠ 0 := by simpa using hb
      rw [if_neg he] at hr
      (repeat (first | apply AK.seq | apply AK.block | apply AK.blk | apply AK.skip | (refine AK.reg follows_any (rs := []) (by rfl) ?_ ?_; first | exact trivial | exact ⟨trivial, trivial⟩ | exact ⟨trivial, trivial, trivial⟩ | exact ⟨trivial, trivial, trivial, trivial⟩ | fail) | fail))
      exact AK.lp ⟨k + 1, ⟨by omega, by omega, hr⟩, Weak.intro ⟨⟨_, rfl, .refl _⟩, ⟨_, rfl, .refl _⟩, ⟨_, rfl, .refl _⟩, ⟨_, rfl, .refl _⟩, ⟨_, rfl, .refl _⟩, ⟨_, rfl, .of_eq (congrArg _ (by first | omega | (rw [wrap_in (by omega) (by omega)]; omega)))⟩, trivial⟩ trivial rfl rfl, by omega⟩
  · have hlt : k = l.length := by have : l.length ≤ k := by simpa [rowsV_len] using hb
                                  omega
    subst hlt
    rw [List.drop_length] at hr
    refine AK.exit rfl ?_
    (repeat (first | apply AK.seq | apply AK.block | apply AK.blk | apply AK.skip | (refine AK.reg follows_any (rs := []) (by rfl) ?_ ?_; first | exact trivial | exact ⟨trivial, trivial⟩ | exact ⟨trivial, trivial, trivial⟩ | exact ⟨trivial, trivial, trivial, trivial⟩ | fail) | fail))
    refine AK.cond (by rfl) (fun hb => ?_) (fun hb => ?_)
    · have hlt2 : l.length < w.length := by simpa [rowsV_len] using hb
      obtain ⟨y, hy⟩ : ∃ x, w[l.length]? = some x := ⟨_, List.getElem?_eq_getElem hlt2⟩
      rw [drop_at hy, cmpL] at hr
      (repeat (first | apply AK.seq | apply AK.block | apply AK.blk | apply AK.skip | (refine AK.reg follows_any (rs := []) (by rfl) ?_ ?_; first | exact trivial | exact ⟨trivial, trivial⟩ | exact ⟨trivial, trivial, trivial⟩ | exact ⟨trivial, trivial, trivial, trivial⟩ | fail) | fail))
      refine AK.ret ⟨_, rfl, ?_⟩
      exact congrArg (AV.int _) hr
    · have hlt2 : w.length ≤ l.length := by simpa [rowsV_len] using hb
      rw [List.drop_eq_nil_of_le hlt2, cmpL] at hr
      (repeat (first | apply AK.seq | apply AK.block | apply AK.blk | apply AK.skip | (refine AK.reg follows_any (rs := []) (by rfl) ?_ ?_; first | exact trivial | exact ⟨trivial, trivial⟩ | exact ⟨trivial, trivial, trivial⟩ | exact ⟨trivial, trivial, trivial, trivial⟩ | fail) | fail))
      refine AK.ret ⟨_, rfl, ?_⟩
      exact congrArg (AV.int _) hr
theorem cmpFuncM_a (l w : List (ByteArray × V)) (hl : l.length ≤ 2000000000000) (hw : w.length ≤ 2000000000000) (h : ∀ q ∈ l, ∀ p ∈ w, AC Tryz.prog 105 [.agg (.str q.1 :: [.int .i64 (q.2).kind, .bool (q.2).b, .int .i64 (q.2).n, .str (q.2).s, .lst .any 6 (rowsV (q.2).l), .lst .any 7 (rowsM (q.2).m)]), .agg (.str p.1 :: [.int .i64 (p.2).kind, .bool (p.2).b, .int .i64 (p.2).n, .str (p.2).s, .lst .any 6 (rowsV (p.2).l), .lst .any 7 (rowsM (p.2).m)])] (.int .i64 (cmpOr (cmpS q.1 p.1) (q.2.cmpC p.2)))) :
    AC Tryz.prog 104 [.lst .any 7 (rowsM l), .lst .any 7 (rowsM w), .fn 105 []] (.int .i64 (cmpM l w)) := by
  refine AC.enter Tryz.func104 a_slices_CompareFunc_Pair_ok a_slices_CompareFunc_Pair_cb (by rfl) fun E hE => ?_
  show AK _ _ _ [.c b_slices_CompareFunc_Pair] _ _
  rw [b_slices_CompareFunc_Pair]
  (repeat (first | apply AK.seq | apply AK.block | apply AK.blk | apply AK.skip | (refine AK.reg follows_any (rs := []) (by rfl) ?_ ?_; first | exact trivial | exact ⟨trivial, trivial⟩ | exact ⟨trivial, trivial, trivial⟩ | exact ⟨trivial, trivial, trivial, trivial⟩ | fail) | fail))
  refine AK.loopI (fun k : Nat => (frOf [(0, .lst .any 7 (rowsM l)), (1, .lst .any 7 (rowsM w)), (2, .fn 105 []), (11, .lst .any 7 (rowsM l)), (12, .int .i64 (rowsM l).length), (13, .int .i64 k)], ⟨boxOf [], fun _ => 0⟩)) (fun k => k ≤ l.length ∧ k ≤ w.length ∧ cmpM (l.drop k) (w.drop k) = cmpM l w) (fun k => l.length - k) 0 ⟨by omega, by omega, rfl⟩ (Weak.intro ⟨⟨_, rfl, .refl _⟩, ⟨_, rfl, .refl _⟩, ⟨_, rfl, .refl _⟩, ⟨_, rfl, .refl _⟩, ⟨_, rfl, .refl _⟩, ⟨_, rfl, .refl _⟩, trivial⟩ trivial rfl rfl) fun k ⟨hk, hkw, hr⟩ => ?_
  (repeat (first | apply AK.seq | apply AK.block | apply AK.blk | apply AK.skip | (refine AK.reg follows_any (rs := []) (by rfl) ?_ ?_; first | exact trivial | exact ⟨trivial, trivial⟩ | exact ⟨trivial, trivial, trivial⟩ | exact ⟨trivial, trivial, trivial, trivial⟩ | fail) | fail))
  refine AK.cond (by rfl) (fun hb => ?_) (fun hb => ?_)
  · have hlt : k < l.length := by simpa [rowsM_len] using hb
    obtain ⟨⟨p, x⟩, hg⟩ : ∃ x, l[k]? = some x := ⟨_, List.getElem?_eq_getElem hlt⟩
    (repeat (first | apply AK.seq | apply AK.block | apply AK.blk | apply AK.skip | (refine AK.reg follows_any (rs := []) (by rfl) ?_ ?_; first | exact trivial | exact ⟨trivial, trivial⟩ | exact ⟨trivial, trivial, trivial⟩ | exact ⟨trivial, trivial, trivial, trivial⟩ | fail) | fail))
    refine AK.reg follows_any (rs := [.c (.str p :: [.int .i64 (x).kind, .bool (x).b, .int .i64 (x).n, .str (x).s, .lst .any 6 (rowsV (x).l), .lst .any 7 (rowsM (x).m)])]) (by rfl) ?_ ?_
    · ((repeat' apply And.intro) <;> first | trivial | omega | (simp only [List.length_nil, List.length_cons]; omega) | (intro hgd; first | (rw [hgd]; rfl) | (refine ⟨?_, by repeat (first | exact trivial | refine ⟨hgd, ?_⟩)⟩; (repeat' apply And.intro) <;> first | trivial | omega | (intro h2; rw [hgd, h2]; rfl) | skip)) | skip)
      · exact rowsM_at hg
    (repeat (first | apply AK.seq | apply AK.block | apply AK.blk | apply AK.skip | (refine AK.reg follows_any (rs := []) (by rfl) ?_ ?_; first | exact trivial | exact ⟨trivial, trivial⟩ | exact ⟨trivial, trivial, trivial⟩ | exact ⟨trivial, trivial, trivial, trivial⟩ | fail) | fail))
    refine AK.cond (by rfl) (fun hb => ?_) (fun hb => ?_)
    · have hge : w.length ≤ k := by simpa [rowsM_len] using hb
      rw [drop_at hg, List.drop_eq_nil_of_le hge, cmpM] at hr
      (repeat (first | apply AK.seq | apply AK.block | apply AK.blk | apply AK.skip | (refine AK.reg follows_any (rs := []) (by rfl) ?_ ?_; first | exact trivial | exact ⟨trivial, trivial⟩ | exact ⟨trivial, trivial, trivial⟩ | exact ⟨trivial, trivial, trivial, trivial⟩ | fail) | fail))
      refine AK.ret ⟨_, rfl, ?_⟩
      exact congrArg (AV.int _) hr
    have hlt2 : k < w.length := by simpa [rowsM_len] using hb
    obtain ⟨⟨q, y⟩, hy⟩ : ∃ x, w[k]? = some x := ⟨_, List.getElem?_eq_getElem hlt2⟩
    rw [cmpM_drop hg hy] at hr
    (repeat (first | apply AK.seq | apply AK.block | apply AK.blk | apply AK.skip | (refine AK.reg follows_any (rs := []) (by rfl) ?_ ?_; first | exact trivial | exact ⟨trivial, trivial⟩ | exact ⟨trivial, trivial, trivial⟩ | exact ⟨trivial, trivial, trivial, trivial⟩ | fail) | fail))
    refine AK.reg follows_any (rs := [.c (.str q :: [.int .i64 (y).kind, .bool (y).b, .int .i64 (y).n, .str (y).s, .lst .any 6 (rowsV (y).l), .lst .any 7 (rowsM (y).m)])]) (by rfl) ?_ ?_
    · ((repeat' apply And.intro) <;> first | trivial | omega | (simp only [List.length_nil, List.length_cons]; omega) | (intro hgd; first | (rw [hgd]; rfl) | (refine ⟨?_, by repeat (first | exact trivial | refine ⟨hgd, ?_⟩)⟩; (repeat' apply And.intro) <;> first | trivial | omega | (intro h2; rw [hgd, h2]; rfl) | skip)) | skip)
      · exact rowsM_at hy
    (repeat (first | apply AK.seq | apply AK.block | apply AK.blk | apply AK.skip | (refine AK.reg follows_any (rs := []) (by rfl) ?_ ?_; first | exact trivial | exact ⟨trivial, trivial⟩ | exact ⟨trivial, trivial, trivial⟩ | exact ⟨trivial, trivial, trivial, trivial⟩ | fail) | fail))
    refine AK.reg follows_any (rs := [.v (.int .i64 (cmpOr (cmpS p q) (x.cmpC y)))]) (by rfl) ?_ ?_
    · ((repeat' apply And.intro) <;> first | trivial | omega | (simp only [List.length_nil, List.length_cons]; omega) | (intro hgd; first | (rw [hgd]; rfl) | (refine ⟨?_, by repeat (first | exact trivial | refine ⟨hgd, ?_⟩)⟩; (repeat' apply And.intro) <;> first | trivial | omega | (intro h2; rw [hgd, h2]; rfl) | skip)) | skip)
      · exact h (p, x) (List.mem_of_getElem? hg) (q, y) (List.mem_of_getElem? hy)
    (repeat (first | apply AK.seq | apply AK.block | apply AK.blk | apply AK.skip | (refine AK.reg follows_any (rs := []) (by rfl) ?_ ?_; first | exact trivial | exact ⟨trivial, trivial⟩ | exact ⟨trivial, trivial, trivial⟩ | exact ⟨trivial, trivial, trivial, trivial⟩ | fail) | fail))
    refine AK.cond (by rfl) (fun hb => ?_) (fun hb => ?_)
    · have he : cmpOr (cmpS p q) (x.cmpC y) ≠ 0 := by simpa using hb
      rw [if_pos he] at hr
      (repeat (first | apply AK.seq | apply AK.block | apply AK.blk | apply AK.skip | (refine AK.reg follows_any (rs := []) (by rfl) ?_ ?_; first | exact trivial | exact ⟨trivial, trivial⟩ | exact ⟨trivial, trivial, trivial⟩ | exact ⟨trivial, trivial, trivial, trivial⟩ | fail) | fail))
      refine AK.ret ⟨_, rfl, ?_⟩
      exact congrArg (AV.int _) hr
    · have he : ¬ cmpOr (cmpS p q) (x.cmpC y) ≠ 0 := by simpa using hb
      rw [if_neg he] at hr
      (repeat (first | apply AK.seq | apply AK.block | apply AK.blk | apply AK.skip | (refine AK.reg follows_any (rs := []) (by rfl) ?_ ?_; first | exact trivial | exact ⟨trivial, trivial⟩ | exact ⟨trivial, trivial, trivial⟩ | exact ⟨trivial, trivial, trivial, trivial⟩ | fail) | fail))
      exact AK.lp ⟨k + 1, ⟨by omega, by omega, hr⟩, Weak.intro ⟨⟨_, rfl, .refl _⟩, ⟨_, rfl, .refl _⟩, ⟨_, rfl, .refl _⟩, ⟨_, rfl, .refl _⟩, ⟨_, rfl, .refl _⟩, ⟨_, rfl, .of_eq (congrArg _ (by first | omega | (rw [wrap_in (by omega) (by omega)]; omega)))⟩, trivial⟩ trivial rfl rfl, by omega⟩
  · have hlt : k = l.length := by have : l.length ≤ k := by simpa [rowsM_len] using hb
                                  omega
    subst hlt
    rw [List.drop_length] at hr
    refine AK.exit rfl ?_
    (repeat (first | apply AK.seq | apply AK.block | apply AK.blk | apply AK.skip | (refine AK.reg follows_any (rs := []) (by rfl) ?_ ?_; first | exact trivial | exact ⟨trivial, trivial⟩ | exact ⟨trivial, trivial, trivial⟩ | exact ⟨trivial, trivial, trivial, trivial⟩ | fail) | fail))
    refine AK.cond (by rfl) (fun hb => ?_) (fun hb => ?_)
    · have hlt2 : l.length < w.length := by simpa [rowsM_len] using hb
      obtain ⟨⟨q, y⟩, hy⟩ : ∃ x, w[l.length]? = some x := ⟨_, List.getElem?_eq_getElem hlt2⟩
      rw [drop_at hy, cmpM] at hr
      (repeat (first | apply AK.seq | apply AK.block | apply AK.blk | apply AK.skip | (refine AK.reg follows_any (rs := []) (by rfl) ?_ ?_; first | exact trivial | exact ⟨trivial, trivial⟩ | exact ⟨trivial, trivial, trivial⟩ | exact ⟨trivial, trivial, trivial, trivial⟩ | fail) | fail))
      refine AK.ret ⟨_, rfl, ?_⟩
      exact congrArg (AV.int _) hr
    · have hlt2 : w.length ≤ l.length := by simpa [rowsM_len] using hb
      rw [List.drop_eq_nil_of_le hlt2, cmpM] at hr
      (repeat (first | apply AK.seq | apply AK.block | apply AK.blk | apply AK.skip | (refine AK.reg follows_any (rs := []) (by rfl) ?_ ?_; first | exact trivial | exact ⟨trivial, trivial⟩ | exact ⟨trivial, trivial, trivial⟩ | exact ⟨trivial, trivial, trivial, trivial⟩ | fail) | fail))
      refine AK.ret ⟨_, rfl, ?_⟩
      exact congrArg (AV.int _) hr

theorem compare1_a (p q : ByteArray) (x y : V) (h : AC Tryz.prog 66 [.agg [.int .i64 (x).kind, .bool (x).b, .int .i64 (x).n, .str (x).s, .lst .any 6 (rowsV (x).l), .lst .any 7 (rowsM (x).m)], .agg [.int .i64 (y).kind, .bool (y).b, .int .i64 (y).n, .str (y).s, .lst .any 6 (rowsV (y).l), .lst .any 7 (rowsM (y).m)]] (.int .i64 (x.cmpC y))) :
    AC Tryz.prog 105 [.agg (.str p :: [.int .i64 (x).kind, .bool (x).b, .int .i64 (x).n, .str (x).s, .lst .any 6 (rowsV (x).l), .lst .any 7 (rowsM (x).m)]), .agg (.str q :: [.int .i64 (y).kind, .bool (y).b, .int .i64 (y).n, .str (y).s, .lst .any 6 (rowsV (y).l), .lst .any 7 (rowsM (y).m)])] (.int .i64 (cmpOr (cmpS p q) (x.cmpC y))) := by
  refine AC.enter Tryz.func105 a_tree_Compare_1_ok a_tree_Compare_1_cb (by rfl) fun E hE => ?_
  show AK _ _ _ [.c b_tree_Compare_1] _ _
  rw [b_tree_Compare_1]
  (repeat (first | apply AK.seq | apply AK.block | apply AK.blk | apply AK.skip | (refine AK.reg follows_any (rs := []) (by rfl) ?_ ?_; first | exact trivial | exact ⟨trivial, trivial⟩ | exact ⟨trivial, trivial, trivial⟩ | exact ⟨trivial, trivial, trivial, trivial⟩ | fail) | fail))
  refine AK.reg follows_any (rs := [.v (.int .i64 (cmpS p q)), .v (.int .i64 (x.cmpC y)), .v (.int .i64 (cmpOr (cmpS p q) (x.cmpC y)))]) (by rfl) ?_ ?_
  · ((repeat' apply And.intro) <;> first | trivial | omega | (simp only [List.length_nil, List.length_cons]; omega) | (intro hgd; first | (rw [hgd]; rfl) | (refine ⟨?_, by repeat (first | exact trivial | refine ⟨hgd, ?_⟩)⟩; (repeat' apply And.intro) <;> first | trivial | omega | (intro h2; rw [hgd, h2]; rfl) | skip)) | skip)
    · exact strCompare_a p q
    · exact cmpOr_a _ _
  (repeat (first | apply AK.seq | apply AK.block | apply AK.blk | apply AK.skip | (refine AK.reg follows_any (rs := []) (by rfl) ?_ ?_; first | exact trivial | exact ⟨trivial, trivial⟩ | exact ⟨trivial, trivial, trivial⟩ | exact ⟨trivial, trivial, trivial, trivial⟩ | fail) | fail))
  refine AK.ret ⟨_, rfl, ?_⟩
  rfl

theorem cmpC_first {v w : V} {c : Int} (h : cmpI v.kind w.kind = c) (hc : c ≠ 0) : v.cmpC w = c := by rw [V.cmpC_eq, h, if_pos hc]
theorem cmpC_rest {v w : V} (h : cmpI v.kind w.kind = 0) : v.cmpC w = if v.kind = 1 then cmpBo v.b w.b else if v.kind = 2 then cmpI v.n w.n else if v.kind = 3 then cmpS v.s w.s else if v.kind = 4 then cmpL v.l w.l else if v.kind = 5 then cmpM v.m w.m else 0 := by
  rw [V.cmpC_eq, h, if_neg (by simp)]
theorem compare_a (n : Nat) : ∀ a b : V, a.size ≤ n → a.size ≤ 2000000000000 → b.size ≤ 2000000000000 → AC Tryz.prog 66 [.agg [.int .i64 (a).kind, .bool (a).b, .int .i64 (a).n, .str (a).s, .lst .any 6 (rowsV (a).l), .lst .any 7 (rowsM (a).m)], .agg [.int .i64 (b).kind, .bool (b).b, .int .i64 (b).n, .str (b).s, .lst .any 6 (rowsV (b).l), .lst .any 7 (rowsM (b).m)]] (.int .i64 (a.cmpC b)) := by
  induction n with
  | zero => intro v _ h; have := v.size_pos; omega
  | succ n ih =>
    intro a b hn hsz hszb
    have hve := a.size_eq
    have hll := len_le_sizeL a.l
    have hlm := len_le_sizeM a.m
    have hveb := b.size_eq
    have hllb := len_le_sizeL b.l
    have hlmb := len_le_sizeM b.m
    refine AC.enter Tryz.func66 a_tree_Compare_ok a_tree_Compare_cb (by rfl) fun E hE => ?_
    show AK _ _ _ [.c b_tree_Compare] _ _
    rw [b_tree_Compare]
    (repeat (first | apply AK.seq | apply AK.block | apply AK.blk | apply AK.skip | (refine AK.reg follows_any (rs := []) (by rfl) ?_ ?_; first | exact trivial | exact ⟨trivial, trivial⟩ | exact ⟨trivial, trivial, trivial⟩ | exact ⟨trivial, trivial, trivial, trivial⟩ | fail) | fail))
    refine AK.reg follows_any (rs := [.v (.int .i64 (cmpI a.kind b.kind))]) (by rfl) ?_ ?_
    · ((repeat' apply And.intro) <;> first | trivial | omega | (simp only [List.length_nil, List.length_cons]; omega) | (intro hgd; first | (rw [hgd]; rfl) | (refine ⟨?_, by repeat (first | exact trivial | refine ⟨hgd, ?_⟩)⟩; (repeat' apply And.intro) <;> first | trivial | omega | (intro h2; rw [hgd, h2]; rfl) | skip)) | skip)
      · exact cmpInt_a _ _
    (repeat (first | apply AK.seq | apply AK.block | apply AK.blk | apply AK.skip | (refine AK.reg follows_any (rs := []) (by rfl) ?_ ?_; first | exact trivial | exact ⟨trivial, trivial⟩ | exact ⟨trivial, trivial, trivial⟩ | exact ⟨trivial, trivial, trivial, trivial⟩ | fail) | fail))
    refine AK.cond (by rfl) (fun hb => ?_) (fun hb => ?_)
    · have h : cmpI a.kind b.kind ≠ 0 := by simpa using hb
      (repeat (first | apply AK.seq | apply AK.block | apply AK.blk | apply AK.skip | (refine AK.reg follows_any (rs := []) (by rfl) ?_ ?_; first | exact trivial | exact ⟨trivial, trivial⟩ | exact ⟨trivial, trivial, trivial⟩ | exact ⟨trivial, trivial, trivial, trivial⟩ | fail) | fail))
      refine AK.ret ⟨_, rfl, ?_⟩
      exact congrArg (AV.int _) (cmpC_first rfl h).symm
    have h : cmpI a.kind b.kind = 0 := by simpa using hb
    rw [cmpC_rest h]
    (repeat (first | apply AK.seq | apply AK.block | apply AK.blk | apply AK.skip | (refine AK.reg follows_any (rs := []) (by rfl) ?_ ?_; first | exact trivial | exact ⟨trivial, trivial⟩ | exact ⟨trivial, trivial, trivial⟩ | exact ⟨trivial, trivial, trivial, trivial⟩ | fail) | fail))
    refine AK.cond (by rfl) (fun hb => ?_) (fun hb => ?_)
    · have hk : a.kind = 1 := by simpa using hb
      rw [if_pos hk]
      (repeat (first | apply AK.seq | apply AK.block | apply AK.blk | apply AK.skip | (refine AK.reg follows_any (rs := []) (by rfl) ?_ ?_; first | exact trivial | exact ⟨trivial, trivial⟩ | exact ⟨trivial, trivial, trivial⟩ | exact ⟨trivial, trivial, trivial, trivial⟩ | fail) | fail))
      refine AK.cond (by rfl) (fun hb => ?_) (fun hb => ?_)
      · (repeat (first | apply AK.seq | apply AK.block | apply AK.blk | apply AK.skip | (refine AK.reg follows_any (rs := []) (by rfl) ?_ ?_; first | exact trivial | exact ⟨trivial, trivial⟩ | exact ⟨trivial, trivial, trivial⟩ | exact ⟨trivial, trivial, trivial, trivial⟩ | fail) | fail))
        refine AK.ret ⟨_, rfl, ?_⟩
        exact congrArg (AV.int _) (by rw [cmpBo, if_pos hb])
      (repeat (first | apply AK.seq | apply AK.block | apply AK.blk | apply AK.skip | (refine AK.reg follows_any (rs := []) (by rfl) ?_ ?_; first | exact trivial | exact ⟨trivial, trivial⟩ | exact ⟨trivial, trivial, trivial⟩ | exact ⟨trivial, trivial, trivial, trivial⟩ | fail) | fail))
      have h1 : ¬ (a.b == b.b) = true := by rw [hb]; decide
      refine AK.cond (by rfl) (fun hb => ?_) (fun hb => ?_)
      · (repeat (first | apply AK.seq | apply AK.block | apply AK.blk | apply AK.skip | (refine AK.reg follows_any (rs := []) (by rfl) ?_ ?_; first | exact trivial | exact ⟨trivial, trivial⟩ | exact ⟨trivial, trivial, trivial⟩ | exact ⟨trivial, trivial, trivial, trivial⟩ | fail) | fail))
        refine AK.ret ⟨_, rfl, ?_⟩
        exact congrArg (AV.int _) (by rw [cmpBo, if_neg h1, if_pos hb])
      · (repeat (first | apply AK.seq | apply AK.block | apply AK.blk | apply AK.skip | (refine AK.reg follows_any (rs := []) (by rfl) ?_ ?_; first | exact trivial | exact ⟨trivial, trivial⟩ | exact ⟨trivial, trivial, trivial⟩ | exact ⟨trivial, trivial, trivial, trivial⟩ | fail) | fail))
        refine AK.ret ⟨_, rfl, ?_⟩
        exact congrArg (AV.int _) (by rw [cmpBo, if_neg h1, if_neg (by simp [hb])])
    have hk : ¬ a.kind = 1 := by simpa using hb
    rw [if_neg hk]
    (repeat (first | apply AK.seq | apply AK.block | apply AK.blk | apply AK.skip | (refine AK.reg follows_any (rs := []) (by rfl) ?_ ?_; first | exact trivial | exact ⟨trivial, trivial⟩ | exact ⟨trivial, trivial, trivial⟩ | exact ⟨trivial, trivial, trivial, trivial⟩ | fail) | fail))
    refine AK.cond (by rfl) (fun hb => ?_) (fun hb => ?_)
    · have hk : a.kind = 2 := by simpa using hb
      rw [if_pos hk]
      (repeat (first | apply AK.seq | apply AK.block | apply AK.blk | apply AK.skip | (refine AK.reg follows_any (rs := []) (by rfl) ?_ ?_; first | exact trivial | exact ⟨trivial, trivial⟩ | exact ⟨trivial, trivial, trivial⟩ | exact ⟨trivial, trivial, trivial, trivial⟩ | fail) | fail))
      refine AK.reg follows_any (rs := [.v (.int .i64 (cmpI a.n b.n))]) (by rfl) ?_ ?_
      · ((repeat' apply And.intro) <;> first | trivial | omega | (simp only [List.length_nil, List.length_cons]; omega) | (intro hgd; first | (rw [hgd]; rfl) | (refine ⟨?_, by repeat (first | exact trivial | refine ⟨hgd, ?_⟩)⟩; (repeat' apply And.intro) <;> first | trivial | omega | (intro h2; rw [hgd, h2]; rfl) | skip)) | skip)
        · exact cmpInt64_a _ _
      (repeat (first | apply AK.seq | apply AK.block | apply AK.blk | apply AK.skip | (refine AK.reg follows_any (rs := []) (by rfl) ?_ ?_; first | exact trivial | exact ⟨trivial, trivial⟩ | exact ⟨trivial, trivial, trivial⟩ | exact ⟨trivial, trivial, trivial, trivial⟩ | fail) | fail))
      refine AK.ret ⟨_, rfl, ?_⟩
      rfl
    have hk : ¬ a.kind = 2 := by simpa using hb
    rw [if_neg hk]
    (repeat (first | apply AK.seq | apply AK.block | apply AK.blk | apply AK.skip | (refine AK.reg follows_any (rs := []) (by rfl) ?_ ?_; first | exact trivial | exact ⟨trivial, trivial⟩ | exact ⟨trivial, trivial, trivial⟩ | exact ⟨trivial, trivial, trivial, trivial⟩ | fail) | fail))
    refine AK.cond (by rfl) (fun hb => ?_) (fun hb => ?_)
    · have hk : a.kind = 3 := by simpa using hb
      rw [if_pos hk]
      (repeat (first | apply AK.seq | apply AK.block | apply AK.blk | apply AK.skip | (refine AK.reg follows_any (rs := []) (by rfl) ?_ ?_; first | exact trivial | exact ⟨trivial, trivial⟩ | exact ⟨trivial, trivial, trivial⟩ | exact ⟨trivial, trivial, trivial, trivial⟩ | fail) | fail))
      refine AK.reg follows_any (rs := [.v (.int .i64 (cmpS a.s b.s))]) (by rfl) ?_ ?_
      · ((repeat' apply And.intro) <;> first | trivial | omega | (simp only [List.length_nil, List.length_cons]; omega) | (intro hgd; first | (rw [hgd]; rfl) | (refine ⟨?_, by repeat (first | exact trivial | refine ⟨hgd, ?_⟩)⟩; (repeat' apply And.intro) <;> first | trivial | omega | (intro h2; rw [hgd, h2]; rfl) | skip)) | skip)
        · exact strCompare_a _ _
      (repeat (first | apply AK.seq | apply AK.block | apply AK.blk | apply AK.skip | (refine AK.reg follows_any (rs := []) (by rfl) ?_ ?_; first | exact trivial | exact ⟨trivial, trivial⟩ | exact ⟨trivial, trivial, trivial⟩ | exact ⟨trivial, trivial, trivial, trivial⟩ | fail) | fail))
      refine AK.ret ⟨_, rfl, ?_⟩
      rfl
    have hk : ¬ a.kind = 3 := by simpa using hb
    rw [if_neg hk]
    (repeat (first | apply AK.seq | apply AK.block | apply AK.blk | apply AK.skip | (refine AK.reg follows_any (rs := []) (by rfl) ?_ ?_; first | exact trivial | exact ⟨trivial, trivial⟩ | exact ⟨trivial, trivial, trivial⟩ | exact ⟨trivial, trivial, trivial, trivial⟩ | fail) | fail))
    refine AK.cond (by rfl) (fun hb => ?_) (fun hb => ?_)
    · have hk : a.kind = 4 := by simpa using hb
      rw [if_pos hk]
      (repeat (first | apply AK.seq | apply AK.block | apply AK.blk | apply AK.skip | (refine AK.reg follows_any (rs := []) (by rfl) ?_ ?_; first | exact trivial | exact ⟨trivial, trivial⟩ | exact ⟨trivial, trivial, trivial⟩ | exact ⟨trivial, trivial, trivial, trivial⟩ | fail) | fail))
      refine AK.reg follows_any (rs := [.v (.int .i64 (cmpL a.l b.l))]) (by rfl) ?_ ?_
      · ((repeat' apply And.intro) <;> first | trivial | omega | (simp only [List.length_nil, List.length_cons]; omega) | (intro hgd; first | (rw [hgd]; rfl) | (refine ⟨?_, by repeat (first | exact trivial | refine ⟨hgd, ?_⟩)⟩; (repeat' apply And.intro) <;> first | trivial | omega | (intro h2; rw [hgd, h2]; rfl) | skip)) | skip)
        · exact cmpFuncV_a _ _ (by omega) (by omega) fun x hx y hy => ih x y (by have := mem_size hx; omega) (by have := mem_size hx; omega) (by have := mem_size hy; omega)
      (repeat (first | apply AK.seq | apply AK.block | apply AK.blk | apply AK.skip | (refine AK.reg follows_any (rs := []) (by rfl) ?_ ?_; first | exact trivial | exact ⟨trivial, trivial⟩ | exact ⟨trivial, trivial, trivial⟩ | exact ⟨trivial, trivial, trivial, trivial⟩ | fail) | fail))
      refine AK.ret ⟨_, rfl, ?_⟩
      rfl
    have hk : ¬ a.kind = 4 := by simpa using hb
    rw [if_neg hk]
    (repeat (first | apply AK.seq | apply AK.block | apply AK.blk | apply AK.skip | (refine AK.reg follows_any (rs := []) (by rfl) ?_ ?_; first | exact trivial | exact ⟨trivial, trivial⟩ | exact ⟨trivial, trivial, trivial⟩ | exact ⟨trivial, trivial, trivial, trivial⟩ | fail) | fail))
    refine AK.cond (by rfl) (fun hb => ?_) (fun hb => ?_)
    · have hk : a.kind = 5 := by simpa using hb
      rw [if_pos hk]
      (repeat (first | apply AK.seq | apply AK.block | apply AK.blk | apply AK.skip | (refine AK.reg follows_any (rs := []) (by rfl) ?_ ?_; first | exact trivial | exact ⟨trivial, trivial⟩ | exact ⟨trivial, trivial, trivial⟩ | exact ⟨trivial, trivial, trivial, trivial⟩ | fail) | fail))
      refine AK.reg follows_any (rs := [.v (.int .i64 (cmpM a.m b.m))]) (by rfl) ?_ ?_
      · ((repeat' apply And.intro) <;> first | trivial | omega | (simp only [List.length_nil, List.length_cons]; omega) | (intro hgd; first | (rw [hgd]; rfl) | (refine ⟨?_, by repeat (first | exact trivial | refine ⟨hgd, ?_⟩)⟩; (repeat' apply And.intro) <;> first | trivial | omega | (intro h2; rw [hgd, h2]; rfl) | skip)) | skip)
        · exact cmpFuncM_a _ _ (by omega) (by omega) fun q hq p hp => compare1_a q.1 p.1 q.2 p.2 (ih q.2 p.2 (by have := mem_sizeM hq; omega) (by have := mem_sizeM hq; omega) (by have := mem_sizeM hp; omega))
      (repeat (first | apply AK.seq | apply AK.block | apply AK.blk | apply AK.skip | (refine AK.reg follows_any (rs := []) (by rfl) ?_ ?_; first | exact trivial | exact ⟨trivial, trivial⟩ | exact ⟨trivial, trivial, trivial⟩ | exact ⟨trivial, trivial, trivial, trivial⟩ | fail) | fail))
      refine AK.ret ⟨_, rfl, ?_⟩
      rfl
    have hk : ¬ a.kind = 5 := by simpa using hb
    rw [if_neg hk]
    (repeat (first | apply AK.seq | apply AK.block | apply AK.blk | apply AK.skip | (refine AK.reg follows_any (rs := []) (by rfl) ?_ ?_; first | exact trivial | exact ⟨trivial, trivial⟩ | exact ⟨trivial, trivial, trivial⟩ | exact ⟨trivial, trivial, trivial, trivial⟩ | fail) | fail))
    refine AK.ret ⟨_, rfl, ?_⟩
    rfl
theorem treeSame_a (a b : V) (ha : a.good) (hb : b.good) (hsz : a.size ≤ 2000000000000) (hszb : b.size ≤ 2000000000000) : AC Tryz.prog 28 [.agg [.int .i64 (a).kind, .bool (a).b, .int .i64 (a).n, .str (a).s, .lst .any 6 (rowsV (a).l), .lst .any 7 (rowsM (a).m)], .agg [.int .i64 (b).kind, .bool (b).b, .int .i64 (b).n, .str (b).s, .lst .any 6 (rowsV (b).l), .lst .any 7 (rowsM (b).m)]] (.bool (a.sameB b)) := by
  rw [← V.cmp_same ha hb]
  refine AC.enter Tryz.func28 a_tree_Same_ok a_tree_Same_cb (by rfl) fun E hE => ?_
  show AK _ _ _ [.c b_tree_Same] _ _
  rw [b_tree_Same]
  (repeat (first | apply AK.seq | apply AK.block | apply AK.blk | apply AK.skip | (refine AK.reg follows_any (rs := []) (by rfl) ?_ ?_; first | exact trivial | exact ⟨trivial, trivial⟩ | exact ⟨trivial, trivial, trivial⟩ | exact ⟨trivial, trivial, trivial, trivial⟩ | fail) | fail))
  refine AK.reg follows_any (rs := [.v (.int .i64 (a.cmpC b))]) (by rfl) ?_ ?_
  · ((repeat' apply And.intro) <;> first | trivial | omega | (simp only [List.length_nil, List.length_cons]; omega) | (intro hgd; first | (rw [hgd]; rfl) | (refine ⟨?_, by repeat (first | exact trivial | refine ⟨hgd, ?_⟩)⟩; (repeat' apply And.intro) <;> first | trivial | omega | (intro h2; rw [hgd, h2]; rfl) | skip)) | skip)
    · exact compare_a _ a b (Nat.le_refl _) hsz hszb
  (repeat (first | apply AK.seq | apply AK.block | apply AK.blk | apply AK.skip | (refine AK.reg follows_any (rs := []) (by rfl) ?_ ?_; first | exact trivial | exact ⟨trivial, trivial⟩ | exact ⟨trivial, trivial, trivial⟩ | exact ⟨trivial, trivial, trivial, trivial⟩ | fail) | fail))
  refine AK.ret ⟨_, rfl, ?_⟩
  rfl
end Go.Proofs.YtgcodocajgdmcaaGreatDoor
