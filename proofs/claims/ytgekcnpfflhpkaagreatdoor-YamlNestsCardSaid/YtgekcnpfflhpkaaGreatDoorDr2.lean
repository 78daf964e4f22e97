/-
  The document's functions on values, walked as instructions: Size, Depth, Text, Key.
-/
import Derived.Test.YtgekcnpfflhpkaaGreatDoorDrT
import Derived.Test.YtgekcnpfflhpkaaGreatDoorEnc
import Derived.Test.YtgekcnpfflhpkaaGreatDoorPure
namespace Go.Proofs.YtgekcnpfflhpkaaGreatDoor
set_option linter.unusedSimpArgs false
set_option linter.unusedVariables false
open Go.RowKit

theorem refSize_a (n : Nat) : ∀ v : V, v.size ≤ n → v.size ≤ 2000000000000 → AC Tryz.prog 58 [.agg [.int .i64 (v).kind, .bool (v).b, .int .i64 (v).n, .str (v).s, .lst .any 6 (rowsV (v).l), .lst .any 7 (rowsM (v).m)]] (.int .i64 v.size) := by
  induction n with
  | zero => intro v h; have := v.size_pos; omega
  | succ n ih =>
    intro v hn hsz
    have hve := v.size_eq
    have hll := len_le_sizeL v.l
    have hlm := len_le_sizeM v.m
    refine AC.enter Tryz.func58 a_ref01_Size_ok a_ref01_Size_cb (by rfl) fun E hE => ?_
    show AK _ _ _ [.c b_ref01_Size] _ _
    rw [b_ref01_Size]
    (repeat (first | apply kS | apply kB | apply kL | apply kN | refine kA follows_any ?_))
    refine AK.loopI (fun k : Nat => (frOf [(1, .ptr 1 0), (3, .int .i64 ((1 + sizeL (v.l.take k) : Nat) : Int)), (4, .int .i64 k)], ⟨boxOf [(1, [.int .i64 (v).kind, .bool (v).b, .int .i64 (v).n, .str (v).s, .lst .any 6 (rowsV (v).l), .lst .any 7 (rowsM (v).m)], false)], fun _ => 0⟩)) (fun k => k ≤ v.l.length) (fun k => v.l.length - k) 0 (by omega) (Weak.intro ⟨⟨_, rfl, .refl _⟩, ⟨_, rfl, .refl _⟩, ⟨_, rfl, .refl _⟩, trivial⟩ ⟨⟨_, rfl, leL_refl _⟩, trivial⟩ rfl rfl) fun k hk => ?_
    (repeat (first | apply kS | apply kB | apply kL | apply kN | refine kA follows_any ?_))
    refine AK.cond (by rfl) (fun hb => ?_) (fun hb => ?_)
    · have hlt : k < v.l.length := by simpa [rowsV_len] using hb
      obtain ⟨x, hg⟩ : ∃ x, v.l[k]? = some x := ⟨_, List.getElem?_eq_getElem hlt⟩
      have hx := sizeL_take hg
      have hx2 := sizeL_take_le v.l (k + 1)
      (repeat (first | apply kS | apply kB | apply kL | apply kN | refine kA follows_any ?_))
      refine kR follows_any [.c [.int .i64 (x).kind, .bool (x).b, .int .i64 (x).n, .str (x).s, .lst .any 6 (rowsV (x).l), .lst .any 7 (rowsM (x).m)], .v (.int .i64 x.size)] (by rfl) ?_ ?_
      · ((repeat' apply And.intro) <;> first | exact kD | (intro hgd; refine ⟨?_, kG⟩; (repeat' apply And.intro) <;> first | exact kD | skip) | skip)
        · exact rowsV_at hg
        · exact ih x (by omega) (by omega)
      (repeat (first | apply kS | apply kB | apply kL | apply kN | refine kA follows_any ?_))
      exact AK.lp ⟨k + 1, by omega, Weak.intro ⟨⟨_, rfl, .refl _⟩, ⟨_, rfl, .of_eq (congrArg _ (by first | omega | (rw [wrap_in (by omega) (by omega)]; omega)))⟩, ⟨_, rfl, .of_eq (congrArg _ (by first | omega | (rw [wrap_in (by omega) (by omega)]; omega)))⟩, trivial⟩ ⟨⟨_, rfl, leL_refl _⟩, trivial⟩ rfl rfl, by omega⟩
    · have hlt : k = v.l.length := by have : v.l.length ≤ k := by simpa [rowsV_len] using hb
                                      omega
      subst hlt
      rw [List.take_length]
      refine AK.exit rfl ?_
      (repeat (first | apply kS | apply kB | apply kL | apply kN | refine kA follows_any ?_))
      refine AK.loopI (fun k : Nat => (frOf [(1, .ptr 1 0), (3, .int .i64 ((1 + sizeL v.l + sizeM (v.m.take k) : Nat) : Int)), (5, .int .i64 k)], ⟨boxOf [(1, [.int .i64 (v).kind, .bool (v).b, .int .i64 (v).n, .str (v).s, .lst .any 6 (rowsV (v).l), .lst .any 7 (rowsM (v).m)], false)], fun _ => 0⟩)) (fun k => k ≤ v.m.length) (fun k => v.m.length - k) 0 (by omega) (Weak.intro ⟨⟨_, rfl, .refl _⟩, ⟨_, rfl, .refl _⟩, ⟨_, rfl, .refl _⟩, trivial⟩ ⟨⟨_, rfl, leL_refl _⟩, trivial⟩ rfl rfl) fun k hk => ?_
      (repeat (first | apply kS | apply kB | apply kL | apply kN | refine kA follows_any ?_))
      refine AK.cond (by rfl) (fun hb => ?_) (fun hb => ?_)
      · have hlt : k < v.m.length := by simpa [rowsM_len] using hb
        obtain ⟨⟨y, x⟩, hg⟩ : ∃ x, v.m[k]? = some x := ⟨_, List.getElem?_eq_getElem hlt⟩
        have hx := sizeM_take hg
        have hx2 := sizeM_take_le v.m (k + 1)
        (repeat (first | apply kS | apply kB | apply kL | apply kN | refine kA follows_any ?_))
        refine kR follows_any [.c (.str y :: [.int .i64 (x).kind, .bool (x).b, .int .i64 (x).n, .str (x).s, .lst .any 6 (rowsV (x).l), .lst .any 7 (rowsM (x).m)]), .v (.int .i64 x.size)] (by rfl) ?_ ?_
        · ((repeat' apply And.intro) <;> first | exact kD | (intro hgd; refine ⟨?_, kG⟩; (repeat' apply And.intro) <;> first | exact kD | skip) | skip)
          · exact rowsM_at hg
          · exact ih x (by omega) (by omega)
        (repeat (first | apply kS | apply kB | apply kL | apply kN | refine kA follows_any ?_))
        exact AK.lp ⟨k + 1, by omega, Weak.intro ⟨⟨_, rfl, .refl _⟩, ⟨_, rfl, .of_eq (congrArg _ (by first | omega | (rw [wrap_in (by omega) (by omega)]; omega)))⟩, ⟨_, rfl, .of_eq (congrArg _ (by first | omega | (rw [wrap_in (by omega) (by omega)]; omega)))⟩, trivial⟩ ⟨⟨_, rfl, leL_refl _⟩, trivial⟩ rfl rfl, by omega⟩
      · have hlt : k = v.m.length := by have : v.m.length ≤ k := by simpa [rowsM_len] using hb
                                        omega
        subst hlt
        rw [List.take_length]
        refine AK.exit rfl ?_
        (repeat (first | apply kS | apply kB | apply kL | apply kN | refine kA follows_any ?_))
        refine AK.ret ⟨_, rfl, ?_⟩
        rw [hve]
        rfl
theorem refDepth_a (n : Nat) : ∀ v : V, v.size ≤ n → v.size ≤ 2000000000000 → AC Tryz.prog 57 [.agg [.int .i64 (v).kind, .bool (v).b, .int .i64 (v).n, .str (v).s, .lst .any 6 (rowsV (v).l), .lst .any 7 (rowsM (v).m)]] (.int .i64 v.depth) := by
  induction n with
  | zero => intro v h; have := v.size_pos; omega
  | succ n ih =>
    intro v hn hsz
    have hve := v.size_eq
    have hde := v.depth_eq
    have hds := v.depth_le_size'
    have hll := len_le_sizeL v.l
    have hlm := len_le_sizeM v.m
    refine AC.enter Tryz.func57 a_ref01_Depth_ok a_ref01_Depth_cb (by rfl) fun E hE => ?_
    show AK _ _ _ [.c b_ref01_Depth] _ _
    rw [b_ref01_Depth]
    (repeat (first | apply kS | apply kB | apply kL | apply kN | refine kA follows_any ?_))
    refine AK.loopI (fun k : Nat => (frOf [(1, .ptr 1 0), (3, .int .i64 (depthL (v.l.take k) : Nat)), (4, .int .i64 k)], ⟨boxOf [(1, [.int .i64 (v).kind, .bool (v).b, .int .i64 (v).n, .str (v).s, .lst .any 6 (rowsV (v).l), .lst .any 7 (rowsM (v).m)], false)], fun _ => 0⟩)) (fun k => k ≤ v.l.length) (fun k => v.l.length - k) 0 (by omega) (Weak.intro ⟨⟨_, rfl, .refl _⟩, ⟨_, rfl, .refl _⟩, ⟨_, rfl, .refl _⟩, trivial⟩ ⟨⟨_, rfl, leL_refl _⟩, trivial⟩ rfl rfl) fun k hk => ?_
    (repeat (first | apply kS | apply kB | apply kL | apply kN | refine kA follows_any ?_))
    refine AK.cond (by rfl) (fun hb => ?_) (fun hb => ?_)
    · have hlt : k < v.l.length := by simpa [rowsV_len] using hb
      obtain ⟨x, hg⟩ : ∃ x, v.l[k]? = some x := ⟨_, List.getElem?_eq_getElem hlt⟩
      have hx := sizeL_take hg
      have hx2 := sizeL_take_le v.l (k + 1)
      have hd := depthL_take hg
      have hd2 := depthL_take_le v.l (k + 1)
      have hd3 := depthL_take_le v.l k
      have hd4 := x.depth_le_size'
      (repeat (first | apply kS | apply kB | apply kL | apply kN | refine kA follows_any ?_))
      refine kR follows_any [.c [.int .i64 (x).kind, .bool (x).b, .int .i64 (x).n, .str (x).s, .lst .any 6 (rowsV (x).l), .lst .any 7 (rowsM (x).m)], .v (.int .i64 x.depth)] (by rfl) ?_ ?_
      · ((repeat' apply And.intro) <;> first | exact kD | (intro hgd; refine ⟨?_, kG⟩; (repeat' apply And.intro) <;> first | exact kD | skip) | skip)
        · exact rowsV_at hg
        · exact ih x (by omega) (by omega)
      (repeat (first | apply kS | apply kB | apply kL | apply kN | refine kA follows_any ?_))
      refine AK.cond (by rfl) (fun hb => ?_) (fun hb => ?_)
      · have hm : depthL (v.l.take k) < x.depth := by simpa using hb
        (repeat (first | apply kS | apply kB | apply kL | apply kN | refine kA follows_any ?_))
        exact AK.lp ⟨k + 1, by omega, Weak.intro ⟨⟨_, rfl, .refl _⟩, ⟨_, rfl, .of_eq (congrArg _ (by first | omega | (rw [wrap_in (by omega) (by omega)]; omega)))⟩, ⟨_, rfl, .of_eq (congrArg _ (by first | omega | (rw [wrap_in (by omega) (by omega)]; omega)))⟩, trivial⟩ ⟨⟨_, rfl, leL_refl _⟩, trivial⟩ rfl rfl, by omega⟩
      · have hm : x.depth ≤ depthL (v.l.take k) := by simpa using hb
        (repeat (first | apply kS | apply kB | apply kL | apply kN | refine kA follows_any ?_))
        exact AK.lp ⟨k + 1, by omega, Weak.intro ⟨⟨_, rfl, .refl _⟩, ⟨_, rfl, .of_eq (congrArg _ (by first | omega | (rw [wrap_in (by omega) (by omega)]; omega)))⟩, ⟨_, rfl, .of_eq (congrArg _ (by first | omega | (rw [wrap_in (by omega) (by omega)]; omega)))⟩, trivial⟩ ⟨⟨_, rfl, leL_refl _⟩, trivial⟩ rfl rfl, by omega⟩
    · have hlt : k = v.l.length := by have : v.l.length ≤ k := by simpa [rowsV_len] using hb
                                      omega
      subst hlt
      rw [List.take_length]
      refine AK.exit rfl ?_
      (repeat (first | apply kS | apply kB | apply kL | apply kN | refine kA follows_any ?_))
      refine AK.loopI (fun k : Nat => (frOf [(1, .ptr 1 0), (3, .int .i64 (max (depthL v.l) (depthM (v.m.take k)) : Nat)), (6, .int .i64 k)], ⟨boxOf [(1, [.int .i64 (v).kind, .bool (v).b, .int .i64 (v).n, .str (v).s, .lst .any 6 (rowsV (v).l), .lst .any 7 (rowsM (v).m)], false)], fun _ => 0⟩)) (fun k => k ≤ v.m.length) (fun k => v.m.length - k) 0 (by omega) (Weak.intro ⟨⟨_, rfl, .refl _⟩, ⟨_, rfl, .of_eq (by simp [depthM])⟩, ⟨_, rfl, .refl _⟩, trivial⟩ ⟨⟨_, rfl, leL_refl _⟩, trivial⟩ rfl rfl) fun k hk => ?_
      (repeat (first | apply kS | apply kB | apply kL | apply kN | refine kA follows_any ?_))
      refine AK.cond (by rfl) (fun hb => ?_) (fun hb => ?_)
      · have hlt : k < v.m.length := by simpa [rowsM_len] using hb
        obtain ⟨⟨y, x⟩, hg⟩ : ∃ x, v.m[k]? = some x := ⟨_, List.getElem?_eq_getElem hlt⟩
        have hx := sizeM_take hg
        have hx2 := sizeM_take_le v.m (k + 1)
        have hd := depthM_take hg
        have hd2 := depthM_take_le v.m (k + 1)
        have hd3 := depthM_take_le v.m k
        have hd4 := x.depth_le_size'
        (repeat (first | apply kS | apply kB | apply kL | apply kN | refine kA follows_any ?_))
        refine kR follows_any [.c (.str y :: [.int .i64 (x).kind, .bool (x).b, .int .i64 (x).n, .str (x).s, .lst .any 6 (rowsV (x).l), .lst .any 7 (rowsM (x).m)]), .v (.int .i64 x.depth)] (by rfl) ?_ ?_
        · ((repeat' apply And.intro) <;> first | exact kD | (intro hgd; refine ⟨?_, kG⟩; (repeat' apply And.intro) <;> first | exact kD | skip) | skip)
          · exact rowsM_at hg
          · exact ih x (by omega) (by omega)
        (repeat (first | apply kS | apply kB | apply kL | apply kN | refine kA follows_any ?_))
        refine AK.cond (by rfl) (fun hb => ?_) (fun hb => ?_)
        · have hm : max (depthL v.l) (depthM (v.m.take k)) < x.depth := by simpa using hb
          (repeat (first | apply kS | apply kB | apply kL | apply kN | refine kA follows_any ?_))
          exact AK.lp ⟨k + 1, by omega, Weak.intro ⟨⟨_, rfl, .refl _⟩, ⟨_, rfl, .of_eq (congrArg _ (by first | omega | (rw [wrap_in (by omega) (by omega)]; omega)))⟩, ⟨_, rfl, .of_eq (congrArg _ (by first | omega | (rw [wrap_in (by omega) (by omega)]; omega)))⟩, trivial⟩ ⟨⟨_, rfl, leL_refl _⟩, trivial⟩ rfl rfl, by omega⟩
        · have hm : x.depth ≤ max (depthL v.l) (depthM (v.m.take k)) := by simpa using hb
          (repeat (first | apply kS | apply kB | apply kL | apply kN | refine kA follows_any ?_))
          exact AK.lp ⟨k + 1, by omega, Weak.intro ⟨⟨_, rfl, .refl _⟩, ⟨_, rfl, .of_eq (congrArg _ (by first | omega | (rw [wrap_in (by omega) (by omega)]; omega)))⟩, ⟨_, rfl, .of_eq (congrArg _ (by first | omega | (rw [wrap_in (by omega) (by omega)]; omega)))⟩, trivial⟩ ⟨⟨_, rfl, leL_refl _⟩, trivial⟩ rfl rfl, by omega⟩
      · have hlt : k = v.m.length := by have : v.m.length ≤ k := by simpa [rowsM_len] using hb
                                        omega
        subst hlt
        rw [List.take_length]
        refine AK.exit rfl ?_
        (repeat (first | apply kS | apply kB | apply kL | apply kN | refine kA follows_any ?_))
        refine AK.ret ⟨_, rfl, ?_⟩
        rw [wrap_in (by omega) (by omega), hde]
        rfl
theorem refKey_a (s : ByteArray) (hs : s.size ≤ 140737488355328) : AC Tryz.prog 100 [.str s] (.bool (keyB s)) := by
  refine AC.enter Tryz.func100 a_ref01_Key_ok a_ref01_Key_cb (by rfl) fun E hE => ?_
  show AK _ _ _ [.c b_ref01_Key] _ _
  rw [b_ref01_Key]
  (repeat (first | apply kS | apply kB | apply kL | apply kN | refine kA follows_any ?_))
  refine AK.loopI (fun k : Nat => (frOf [(0, .str s), (3, .int .i64 k)], ⟨boxOf [], fun _ => 0⟩)) (fun k => k ≤ s.size ∧ allTo okK s k) (fun k => s.size - k) 0 ⟨by omega, allTo_zero _ _⟩ (Weak.intro ⟨⟨_, rfl, .refl _⟩, ⟨_, rfl, .refl _⟩, trivial⟩ trivial rfl rfl) fun k ⟨hk, hno⟩ => ?_
  (repeat (first | apply kS | apply kB | apply kL | apply kN | refine kA follows_any ?_))
  refine AK.cond (by rfl) (fun hb => ?_) (fun hb => ?_)
  · have hlt : k < s.size := by simpa using hb
    (repeat (first | apply kS | apply kB | apply kL | apply kN | refine kA follows_any ?_))
    refine kR follows_any [] (by rfl) ?_ ?_
    · ((repeat' apply And.intro) <;> first | exact kD | (intro hgd; refine ⟨?_, kG⟩; (repeat' apply And.intro) <;> first | exact kD | skip) | skip)
    rw [show s.data.getD (k : Int).toNat 0 = s[k] from byte_at hlt]
    refine AK.cond (by rfl) (fun hb => ?_) (fun hb => ?_)
    · (repeat (first | apply kS | apply kB | apply kL | apply kN | refine kA follows_any ?_))
      refine AK.ret ⟨_, rfl, ?_⟩
      have hf : okK s[k] = false := by
        simp only [Bool.or_eq_true, decide_eq_true_eq] at hb
        simp only [okK, Bool.and_eq_false_iff, decide_eq_false_iff_not]
        omega
      rw [keyB, allB_false hlt hf]
      rfl
    · have ht : okK s[k] = true := by
        simp only [Bool.or_eq_false_iff, decide_eq_false_iff_not] at hb
        simp only [okK, Bool.and_eq_true, decide_eq_true_eq]
        omega
      (repeat (first | apply kS | apply kB | apply kL | apply kN | refine kA follows_any ?_))
      exact AK.lp ⟨k + 1, ⟨by omega, allTo_succ hno hlt ht⟩, Weak.intro ⟨⟨_, rfl, .refl _⟩, ⟨_, rfl, .of_eq (congrArg _ (by first | omega | (rw [wrap_in (by omega) (by omega)]; omega)))⟩, trivial⟩ trivial rfl rfl, by omega⟩
  · have hlt : k = s.size := by have : s.size ≤ k := by simpa using hb
                                omega
    subst hlt
    refine AK.exit rfl ?_
    (repeat (first | apply kS | apply kB | apply kL | apply kN | refine kA follows_any ?_))
    refine kR follows_any [] (by rfl) ?_ ?_
    · ((repeat' apply And.intro) <;> first | exact kD | (intro hgd; refine ⟨?_, kG⟩; (repeat' apply And.intro) <;> first | exact kD | skip) | skip)
    (repeat (first | apply kS | apply kB | apply kL | apply kN | refine kA follows_any ?_))
    refine AK.ret ⟨_, rfl, ?_⟩
    show AV.bool _ = AV.bool _
    refine congrArg AV.bool ?_
    rw [keyB, allB_true hno, Bool.eq_iff_iff]
    simp
    try omega
end Go.Proofs.YtgekcnpfflhpkaaGreatDoor
/-
  The document's functions parts and Check, walked as instructions.
-/
namespace Go.Proofs.YtgekcnpfflhpkaaGreatDoor
set_option linter.unusedSimpArgs false
set_option linter.unusedVariables false
open Go.RowKit

theorem kbad_eq {v : V} : kbad v.kind v.b v.n v.s v.l.length v.m.length = (decide (v.kind < 0) || decide (v.kind > 5) || !decide (v.kind = 1) && v.b || !decide (v.kind = 2) && !decide (v.n = 0) || !decide (v.kind = 3) && !decide (v.s = { data := #[] }) ||
    !decide (v.kind = 4) && decide (((rowsV v.l).length : Int) > 0) || !decide (v.kind = 5) && decide (((rowsM v.m).length : Int) > 0)) := by
  rw [rowsV_len, rowsM_len]
  unfold kbad noBytes
  rw [Bool.eq_iff_iff]
  simp
theorem partsC_kind {v : V} (h : kbad v.kind v.b v.n v.s v.l.length v.m.length = true) : v.partsC = 8 := by rw [V.partsC_eq, if_pos h]
theorem partsC_text {v : V} (h : kbad v.kind v.b v.n v.s v.l.length v.m.length = false) (ht : textB v.s = false) : v.partsC = 10 := by rw [V.partsC_eq, if_neg (by simp [h]), if_pos ht]
theorem partsC_list {v : V} (h : kbad v.kind v.b v.n v.s v.l.length v.m.length = false) (ht : textB v.s = true) (hl : partsL v.l ≠ 0) : v.partsC = partsL v.l := by rw [V.partsC_eq, if_neg (by simp [h]), if_neg (by simp [ht]), if_pos hl]
theorem partsC_map {v : V} (h : kbad v.kind v.b v.n v.s v.l.length v.m.length = false) (ht : textB v.s = true) (hl : partsL v.l = 0) : v.partsC = partsM none v.m := by rw [V.partsC_eq, if_neg (by simp [h]), if_neg (by simp [ht]), if_neg (by simp [hl])]

theorem noRise_eq {m : List (ByteArray × V)} {k : Nat} {y z : ByteArray} {x' : V} (hz : 0 < k → m[k - 1]? = some (z, x')) : noRise (prevK m k) y = (decide ((k : Int) > 0) && !Op.bytesLess z.toList y.toList) := by
  cases k with
  | zero => simp [prevK, noRise]
  | succ k =>
    have := hz (by omega)
    simp only [Nat.add_sub_cancel] at this
    have e : decide (((k + 1 : Nat) : Int) > 0) = true := decide_eq_true (by omega)
    rw [prevK, this, e]; simp [noRise]
set_option maxRecDepth 4000 in
theorem refParts_a (n : Nat) : ∀ v : V, v.size ≤ n → v.sb → v.size ≤ 2000000000000 → AC Tryz.prog 59 [.agg [.int .i64 (v).kind, .bool (v).b, .int .i64 (v).n, .str (v).s, .lst .any 6 (rowsV (v).l), .lst .any 7 (rowsM (v).m)]] (.int .i64 v.partsC) := by
  induction n with
  | zero => intro v h; have := v.size_pos; omega
  | succ n ih =>
    intro v hn hsb hsz
    have hve := v.size_eq
    have hll := len_le_sizeL v.l
    have hlm := len_le_sizeM v.m
    refine AC.enter Tryz.func59 a_ref01_parts_ok a_ref01_parts_cb (by rfl) fun E hE => ?_
    show AK _ _ _ [.c b_ref01_parts] _ _
    rw [b_ref01_parts]
    (repeat (first | apply kS | apply kB | apply kL | apply kN | refine kA follows_any ?_))
    refine kR follows_any [] (by rfl) ?_ ?_
    · ((repeat' apply And.intro) <;> first | exact kD | (intro hgd; refine ⟨?_, kG⟩; (repeat' apply And.intro) <;> first | exact kD | skip) | skip)
    refine AK.cond (by rfl) (fun hb => ?_) (fun hb => ?_)
    · (repeat (first | apply kS | apply kB | apply kL | apply kN | refine kA follows_any ?_))
      refine AK.ret ⟨_, rfl, ?_⟩
      exact congrArg (AV.int _) (partsC_kind (kbad_eq.trans hb)).symm
    have hk0 := kbad_eq.trans hb
    (repeat (first | apply kS | apply kB | apply kL | apply kN | refine kA follows_any ?_))
    refine kR follows_any [.v (.bool (textB v.s))] (by rfl) ?_ ?_
    · ((repeat' apply And.intro) <;> first | exact kD | (intro hgd; refine ⟨?_, kG⟩; (repeat' apply And.intro) <;> first | exact kD | skip) | skip)
      · exact refText_a _ (sb_s hsb)
    refine AK.cond (by rfl) (fun hb => ?_) (fun hb => ?_)
    · (repeat (first | apply kS | apply kB | apply kL | apply kN | refine kA follows_any ?_))
      refine AK.ret ⟨_, rfl, ?_⟩
      exact congrArg (AV.int _) (partsC_text hk0 (by simpa using hb)).symm
    have ht0 : textB v.s = true := by simpa using hb
    (repeat (first | apply kS | apply kB | apply kL | apply kN | refine kA follows_any ?_))
    refine AK.loopI (fun k : Nat => (frOf [(1, .ptr 1 0), (3, .int .i64 k)], ⟨boxOf [(1, [.int .i64 (v).kind, .bool (v).b, .int .i64 (v).n, .str (v).s, .lst .any 6 (rowsV (v).l), .lst .any 7 (rowsM (v).m)], false)], fun _ => 0⟩)) (fun k => k ≤ v.l.length ∧ partsL (v.l.drop k) = partsL v.l) (fun k => v.l.length - k) 0 ⟨by omega, rfl⟩ (Weak.intro ⟨⟨_, rfl, .refl _⟩, ⟨_, rfl, .refl _⟩, trivial⟩ ⟨⟨_, rfl, leL_refl _⟩, trivial⟩ rfl rfl) fun k ⟨hk, hr⟩ => ?_
    (repeat (first | apply kS | apply kB | apply kL | apply kN | refine kA follows_any ?_))
    refine AK.cond (by rfl) (fun hb => ?_) (fun hb => ?_)
    · have hlt : k < v.l.length := by simpa [rowsV_len] using hb
      obtain ⟨x, hg⟩ : ∃ x, v.l[k]? = some x := ⟨_, List.getElem?_eq_getElem hlt⟩
      have hx := sizeL_take hg
      have hx2 := sizeL_take_le v.l (k + 1)
      rw [partsL_drop hg] at hr
      (repeat (first | apply kS | apply kB | apply kL | apply kN | refine kA follows_any ?_))
      refine kR follows_any [.c [.int .i64 (x).kind, .bool (x).b, .int .i64 (x).n, .str (x).s, .lst .any 6 (rowsV (x).l), .lst .any 7 (rowsM (x).m)], .v (.int .i64 x.partsC)] (by rfl) ?_ ?_
      · ((repeat' apply And.intro) <;> first | exact kD | (intro hgd; refine ⟨?_, kG⟩; (repeat' apply And.intro) <;> first | exact kD | skip) | skip)
        · exact rowsV_at hg
        · exact ih x (by omega) (sb_l hsb hg) (by omega)
      (repeat (first | apply kS | apply kB | apply kL | apply kN | refine kA follows_any ?_))
      refine AK.cond (by rfl) (fun hb => ?_) (fun hb => ?_)
      · have he : x.partsC ≠ 0 := by simpa using hb
        rw [if_pos he] at hr
        (repeat (first | apply kS | apply kB | apply kL | apply kN | refine kA follows_any ?_))
        refine AK.ret ⟨_, rfl, ?_⟩
        exact congrArg (AV.int _) (by rw [partsC_list hk0 ht0 (by rw [← hr]; exact he)]; exact hr)
      · have he : ¬ x.partsC ≠ 0 := by simpa using hb
        rw [if_neg he] at hr
        (repeat (first | apply kS | apply kB | apply kL | apply kN | refine kA follows_any ?_))
        exact AK.lp ⟨k + 1, ⟨by omega, hr⟩, Weak.intro ⟨⟨_, rfl, .refl _⟩, ⟨_, rfl, .of_eq (congrArg _ (by first | omega | (rw [wrap_in (by omega) (by omega)]; omega)))⟩, trivial⟩ ⟨⟨_, rfl, leL_refl _⟩, trivial⟩ rfl rfl, by omega⟩
    · have hlt : k = v.l.length := by have : v.l.length ≤ k := by simpa [rowsV_len] using hb
                                      omega
      subst hlt
      have hl0 : partsL v.l = 0 := by rw [← hr, List.drop_length]; rfl
      clear hr
      refine AK.exit rfl ?_
      (repeat (first | apply kS | apply kB | apply kL | apply kN | refine kA follows_any ?_))
      refine AK.loopI (fun k : Nat => (frOf [(1, .ptr 1 0), (5, .int .i64 k)], ⟨boxOf [(1, [.int .i64 (v).kind, .bool (v).b, .int .i64 (v).n, .str (v).s, .lst .any 6 (rowsV (v).l), .lst .any 7 (rowsM (v).m)], false)], fun _ => 0⟩)) (fun k => k ≤ v.m.length ∧ partsM (prevK v.m k) (v.m.drop k) = v.partsC) (fun k => v.m.length - k) 0 ⟨by omega, (partsC_map hk0 ht0 hl0).symm⟩ (Weak.intro ⟨⟨_, rfl, .refl _⟩, ⟨_, rfl, .refl _⟩, trivial⟩ ⟨⟨_, rfl, leL_refl _⟩, trivial⟩ rfl rfl) fun k ⟨hk, hr⟩ => ?_
      (repeat (first | apply kS | apply kB | apply kL | apply kN | refine kA follows_any ?_))
      refine AK.cond (by rfl) (fun hb => ?_) (fun hb => ?_)
      · have hlt : k < v.m.length := by simpa [rowsM_len] using hb
        obtain ⟨⟨y, x⟩, hg⟩ : ∃ x, v.m[k]? = some x := ⟨_, List.getElem?_eq_getElem hlt⟩
        obtain ⟨z, x', hz⟩ : ∃ z x', 0 < k → v.m[k - 1]? = some (z, x') := by
          by_cases h0 : 0 < k
          · exact ⟨(v.m[k - 1]'(by omega)).1, (v.m[k - 1]'(by omega)).2, fun _ => List.getElem?_eq_getElem (by omega)⟩
          · exact ⟨y, x, fun h => absurd h h0⟩
        have hx := sizeM_take hg
        have hx2 := sizeM_take_le v.m (k + 1)
        rw [partsM_drop hg] at hr
        (repeat (first | apply kS | apply kB | apply kL | apply kN | refine kA follows_any ?_))
        refine kR follows_any [.c (.str y :: [.int .i64 (x).kind, .bool (x).b, .int .i64 (x).n, .str (x).s, .lst .any 6 (rowsV (x).l), .lst .any 7 (rowsM (x).m)]), .v (.bool (keyB y))] (by rfl) ?_ ?_
        · ((repeat' apply And.intro) <;> first | exact kD | (intro hgd; refine ⟨?_, kG⟩; (repeat' apply And.intro) <;> first | exact kD | skip) | skip)
          · exact rowsM_at hg
          · exact refKey_a _ (sb_m hsb hg).1
        refine AK.cond (by rfl) (fun hb => ?_) (fun hb => ?_)
        · (repeat (first | apply kS | apply kB | apply kL | apply kN | refine kA follows_any ?_))
          refine AK.ret ⟨_, rfl, ?_⟩
          exact congrArg (AV.int _) (by rw [← hr, if_pos (by simpa using hb)])
        rw [if_neg (by simpa using hb)] at hr
        (repeat (first | apply kS | apply kB | apply kL | apply kN | refine kA follows_any ?_))
        refine kR follows_any [.c (.str y :: [.int .i64 (x).kind, .bool (x).b, .int .i64 (x).n, .str (x).s, .lst .any 6 (rowsV (x).l), .lst .any 7 (rowsM (x).m)]), .c (.str z :: [.int .i64 (x').kind, .bool (x').b, .int .i64 (x').n, .str (x').s, .lst .any 6 (rowsV (x').l), .lst .any 7 (rowsM (x').m)])] (by rfl) ?_ ?_
        · ((repeat' apply And.intro) <;> first | exact kD | (intro hgd; refine ⟨?_, kG⟩; (repeat' apply And.intro) <;> first | exact kD | skip) | skip)
          · exact rowsM_at hg
          · have h0 : 0 < k := by simpa [gd] using hgd
            rw [wrap_in (by omega) (by omega)]; omega
          · have h0 : 0 < k := by simpa [gd] using hgd
            rw [wrap_in (by omega) (by omega), show ((k : Int) - 1).toNat = k - 1 by omega]
            exact rowsM_at (hz h0)
        have hn := noRise_eq (y := y) hz
        refine AK.cond (by rfl) (fun hb => ?_) (fun hb => ?_)
        · (repeat (first | apply kS | apply kB | apply kL | apply kN | refine kA follows_any ?_))
          refine AK.ret ⟨_, rfl, ?_⟩
          exact congrArg (AV.int _) (by rw [← hr, if_pos (hn.trans hb)])
        rw [if_neg (by rw [hn, hb]; decide)] at hr
        (repeat (first | apply kS | apply kB | apply kL | apply kN | refine kA follows_any ?_))
        refine kR follows_any [.c (.str y :: [.int .i64 (x).kind, .bool (x).b, .int .i64 (x).n, .str (x).s, .lst .any 6 (rowsV (x).l), .lst .any 7 (rowsM (x).m)]), .v (.int .i64 x.partsC)] (by rfl) ?_ ?_
        · ((repeat' apply And.intro) <;> first | exact kD | (intro hgd; refine ⟨?_, kG⟩; (repeat' apply And.intro) <;> first | exact kD | skip) | skip)
          · exact rowsM_at hg
          · exact ih x (by omega) (sb_m hsb hg).2 (by omega)
        (repeat (first | apply kS | apply kB | apply kL | apply kN | refine kA follows_any ?_))
        refine AK.cond (by rfl) (fun hb => ?_) (fun hb => ?_)
        · have he : x.partsC ≠ 0 := by simpa using hb
          rw [if_pos he] at hr
          (repeat (first | apply kS | apply kB | apply kL | apply kN | refine kA follows_any ?_))
          refine AK.ret ⟨_, rfl, ?_⟩
          exact congrArg (AV.int _) hr
        · have he : ¬ x.partsC ≠ 0 := by simpa using hb
          rw [if_neg he] at hr
          (repeat (first | apply kS | apply kB | apply kL | apply kN | refine kA follows_any ?_))
          exact AK.lp ⟨k + 1, ⟨by omega, hr⟩, Weak.intro ⟨⟨_, rfl, .refl _⟩, ⟨_, rfl, .of_eq (congrArg _ (by first | omega | (rw [wrap_in (by omega) (by omega)]; omega)))⟩, trivial⟩ ⟨⟨_, rfl, leL_refl _⟩, trivial⟩ rfl rfl, by omega⟩
      · have hlt : k = v.m.length := by have : v.m.length ≤ k := by simpa [rowsM_len] using hb
                                        omega
        subst hlt
        refine AK.exit rfl ?_
        (repeat (first | apply kS | apply kB | apply kL | apply kN | refine kA follows_any ?_))
        refine AK.ret ⟨_, rfl, ?_⟩
        exact congrArg (AV.int _) (by rw [← hr, List.drop_length]; rfl)

theorem refCheck_a (v : V) (hsb : v.sb) (hsz : v.size ≤ 2000000000000) : AC Tryz.prog 27 [.agg [.int .i64 (v).kind, .bool (v).b, .int .i64 (v).n, .str (v).s, .lst .any 6 (rowsV (v).l), .lst .any 7 (rowsM (v).m)]] (.int .i64 v.checkC) := by
  refine AC.enter Tryz.func27 a_ref01_Check_ok a_ref01_Check_cb (by rfl) fun E hE => ?_
  show AK _ _ _ [.c b_ref01_Check] _ _
  rw [b_ref01_Check]
  (repeat (first | apply kS | apply kB | apply kL | apply kN | refine kA follows_any ?_))
  refine kR follows_any [.v (.int .i64 v.depth)] (by rfl) ?_ ?_
  · ((repeat' apply And.intro) <;> first | exact kD | (intro hgd; refine ⟨?_, kG⟩; (repeat' apply And.intro) <;> first | exact kD | skip) | skip)
    · exact refDepth_a _ v (Nat.le_refl _) hsz
  refine AK.cond (by rfl) (fun hb => ?_) (fun hb => ?_)
  · have h1 : 16 < v.depth := by have : (16 : Int) < v.depth := by simpa using hb
                                 omega
    (repeat (first | apply kS | apply kB | apply kL | apply kN | refine kA follows_any ?_))
    refine AK.ret ⟨_, rfl, ?_⟩
    exact congrArg (AV.int _) (by rw [V.checkC, if_pos h1])
  have h1 : ¬ 16 < v.depth := by have : (v.depth : Int) ≤ 16 := by simpa using hb
                                 omega
  (repeat (first | apply kS | apply kB | apply kL | apply kN | refine kA follows_any ?_))
  refine kR follows_any [.v (.int .i64 v.size)] (by rfl) ?_ ?_
  · ((repeat' apply And.intro) <;> first | exact kD | (intro hgd; refine ⟨?_, kG⟩; (repeat' apply And.intro) <;> first | exact kD | skip) | skip)
    · exact refSize_a _ v (Nat.le_refl _) hsz
  refine AK.cond (by rfl) (fun hb => ?_) (fun hb => ?_)
  · have h2 : 4096 < v.size := by have : (4096 : Int) < v.size := by simpa using hb
                                  omega
    (repeat (first | apply kS | apply kB | apply kL | apply kN | refine kA follows_any ?_))
    refine AK.ret ⟨_, rfl, ?_⟩
    exact congrArg (AV.int _) (by rw [V.checkC, if_neg h1, if_pos h2])
  have h2 : ¬ 4096 < v.size := by have : (v.size : Int) ≤ 4096 := by simpa using hb
                                  omega
  (repeat (first | apply kS | apply kB | apply kL | apply kN | refine kA follows_any ?_))
  refine kR follows_any [.v (.int .i64 v.partsC)] (by rfl) ?_ ?_
  · ((repeat' apply And.intro) <;> first | exact kD | (intro hgd; refine ⟨?_, kG⟩; (repeat' apply And.intro) <;> first | exact kD | skip) | skip)
    · exact refParts_a _ v (Nat.le_refl _) hsb hsz
  (repeat (first | apply kS | apply kB | apply kL | apply kN | refine kA follows_any ?_))
  refine AK.ret ⟨_, rfl, ?_⟩
  exact congrArg (AV.int _) (by rw [V.checkC, if_neg h1, if_neg h2])
end Go.Proofs.YtgekcnpfflhpkaaGreatDoor
