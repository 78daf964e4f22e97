/-
  What is wrong with a value: the program's functions, walked: sizes, depths, keys.
-/
import Derived.Test.YtgekcnpfflhpkaaGreatDoorValB
import Derived.Test.YtgekcnpfflhpkaaGreatDoorDr2
import Derived.Test.YtgekcnpfflhpkaaGreatDoorYq
import Derived.Test.YtgekcnpfflhpkaaGreatDoorFrame
import Derived.BigQuiet
namespace Go.Proofs.YtgekcnpfflhpkaaGreatDoor
set_option linter.unusedSimpArgs false
set_option linter.unusedVariables false
open Go.RowKit

theorem max_cast (a b : Nat) : (match decide ((b : Int) > (a : Int)) with | true => (b : Int) | false => (a : Int)) = ((max a b : Nat) : Int) := by
  by_cases h : a < b
  · rw [decide_eq_true (by omega)]; show (b : Int) = _; omega
  · rw [decide_eq_false (by omega)]; show (a : Int) = _; omega
theorem treeSize_a (n : Nat) : ∀ v : V, v.size ≤ n → v.size ≤ 2000000000000 → AC Tryz.prog 54 [.agg [.int .i64 (v).kind, .bool (v).b, .int .i64 (v).n, .str (v).s, .lst .any 6 (rowsV (v).l), .lst .any 7 (rowsM (v).m)]] (.int .i64 v.size) := by
  induction n with
  | zero => intro v h; have := v.size_pos; omega
  | succ n ih =>
    intro v hn hsz
    have hve := v.size_eq
    have hll := len_le_sizeL v.l
    have hlm := len_le_sizeM v.m
    refine AC.enter Tryz.func54 a_tree_Size_ok a_tree_Size_cb (by rfl) fun E hE => ?_
    show AK _ _ _ [.c b_tree_Size] _ _
    rw [b_tree_Size]
    (repeat (first | apply kS | apply kB | apply kL | apply kN | refine kA follows_any ?_))
    refine AK.loopI (fun k : Nat => (frOf [(1, .ptr 1 0), (3, .int .i64 ((1 + sizeL (v.l.take k) : Nat) : Int)), (9, .lst .any 6 (rowsV v.l)), (10, .int .i64 (rowsV v.l).length), (11, .int .i64 k)], ⟨boxOf [(1, [.int .i64 (v).kind, .bool (v).b, .int .i64 (v).n, .str (v).s, .lst .any 6 (rowsV (v).l), .lst .any 7 (rowsM (v).m)], false)], fun _ => 0⟩)) (fun k => k ≤ v.l.length) (fun k => v.l.length - k) 0 (by omega) (Weak.intro ⟨⟨_, rfl, .refl _⟩, ⟨_, rfl, .refl _⟩, ⟨_, rfl, .refl _⟩, ⟨_, rfl, .refl _⟩, ⟨_, rfl, .refl _⟩, trivial⟩ ⟨⟨_, rfl, leL_refl _⟩, trivial⟩ rfl rfl) fun k hk => ?_
    (repeat (first | apply kS | apply kB | apply kL | apply kN | refine kA follows_any ?_))
    refine AK.cond (by rfl) (fun hb => ?_) (fun hb => ?_)
    · have hlt : k < v.l.length := by simpa [rowsV_len] using hb
      obtain ⟨x, hg⟩ : ∃ x, v.l[k]? = some x := ⟨_, List.getElem?_eq_getElem hlt⟩
      have hx := sizeL_take hg
      have hx2 := sizeL_take_le v.l (k + 1)
      (repeat (first | apply kS | apply kB | apply kL | apply kN | refine kA follows_any ?_))
      refine kR follows_any [.c [.int .i64 (x).kind, .bool (x).b, .int .i64 (x).n, .str (x).s, .lst .any 6 (rowsV (x).l), .lst .any 7 (rowsM (x).m)]] (by rfl) ?_ ?_
      · ((repeat' apply And.intro) <;> first | exact kD | (intro hgd; refine ⟨?_, kG⟩; (repeat' apply And.intro) <;> first | exact kD | skip) | skip)
        · exact rowsV_at hg
      (repeat (first | apply kS | apply kB | apply kL | apply kN | refine kA follows_any ?_))
      refine kR follows_any [.v (.int .i64 x.size)] (by rfl) ?_ ?_
      · ((repeat' apply And.intro) <;> first | exact kD | (intro hgd; refine ⟨?_, kG⟩; (repeat' apply And.intro) <;> first | exact kD | skip) | skip)
        · exact ih x (by omega) (by omega)
      (repeat (first | apply kS | apply kB | apply kL | apply kN | refine kA follows_any ?_))
      exact AK.lp ⟨k + 1, by omega, Weak.intro ⟨⟨_, rfl, .refl _⟩, ⟨_, rfl, .of_eq (congrArg _ (by first | omega | (rw [wrap_in (by omega) (by omega)]; omega)))⟩, ⟨_, rfl, .refl _⟩, ⟨_, rfl, .refl _⟩, ⟨_, rfl, .of_eq (congrArg _ (by first | omega | (rw [wrap_in (by omega) (by omega)]; omega)))⟩, trivial⟩ ⟨⟨_, rfl, leL_refl _⟩, trivial⟩ rfl rfl, by omega⟩
    · have hlt : k = v.l.length := by have : v.l.length ≤ k := by simpa [rowsV_len] using hb
                                      omega
      subst hlt
      rw [List.take_length]
      refine AK.exit rfl ?_
      (repeat (first | apply kS | apply kB | apply kL | apply kN | refine kA follows_any ?_))
      refine AK.loopI (fun k : Nat => (frOf [(1, .ptr 1 0), (3, .int .i64 ((1 + sizeL v.l + sizeM (v.m.take k) : Nat) : Int)), (21, .lst .any 7 (rowsM v.m)), (22, .int .i64 (rowsM v.m).length), (23, .int .i64 k)], ⟨boxOf [(1, [.int .i64 (v).kind, .bool (v).b, .int .i64 (v).n, .str (v).s, .lst .any 6 (rowsV (v).l), .lst .any 7 (rowsM (v).m)], false)], fun _ => 0⟩)) (fun k => k ≤ v.m.length) (fun k => v.m.length - k) 0 (by omega) (Weak.intro ⟨⟨_, rfl, .refl _⟩, ⟨_, rfl, .refl _⟩, ⟨_, rfl, .refl _⟩, ⟨_, rfl, .refl _⟩, ⟨_, rfl, .refl _⟩, trivial⟩ ⟨⟨_, rfl, leL_refl _⟩, trivial⟩ rfl rfl) fun k hk => ?_
      (repeat (first | apply kS | apply kB | apply kL | apply kN | refine kA follows_any ?_))
      refine AK.cond (by rfl) (fun hb => ?_) (fun hb => ?_)
      · have hlt : k < v.m.length := by simpa [rowsM_len] using hb
        obtain ⟨⟨y, x⟩, hg⟩ : ∃ x, v.m[k]? = some x := ⟨_, List.getElem?_eq_getElem hlt⟩
        have hx := sizeM_take hg
        have hx2 := sizeM_take_le v.m (k + 1)
        (repeat (first | apply kS | apply kB | apply kL | apply kN | refine kA follows_any ?_))
        refine kR follows_any [.c (.str y :: [.int .i64 (x).kind, .bool (x).b, .int .i64 (x).n, .str (x).s, .lst .any 6 (rowsV (x).l), .lst .any 7 (rowsM (x).m)])] (by rfl) ?_ ?_
        · ((repeat' apply And.intro) <;> first | exact kD | (intro hgd; refine ⟨?_, kG⟩; (repeat' apply And.intro) <;> first | exact kD | skip) | skip)
          · exact rowsM_at hg
        (repeat (first | apply kS | apply kB | apply kL | apply kN | refine kA follows_any ?_))
        refine kR follows_any [.v (.int .i64 x.size)] (by rfl) ?_ ?_
        · ((repeat' apply And.intro) <;> first | exact kD | (intro hgd; refine ⟨?_, kG⟩; (repeat' apply And.intro) <;> first | exact kD | skip) | skip)
          · exact ih x (by omega) (by omega)
        (repeat (first | apply kS | apply kB | apply kL | apply kN | refine kA follows_any ?_))
        exact AK.lp ⟨k + 1, by omega, Weak.intro ⟨⟨_, rfl, .refl _⟩, ⟨_, rfl, .of_eq (congrArg _ (by first | omega | (rw [wrap_in (by omega) (by omega)]; omega)))⟩, ⟨_, rfl, .refl _⟩, ⟨_, rfl, .refl _⟩, ⟨_, rfl, .of_eq (congrArg _ (by first | omega | (rw [wrap_in (by omega) (by omega)]; omega)))⟩, trivial⟩ ⟨⟨_, rfl, leL_refl _⟩, trivial⟩ rfl rfl, by omega⟩
      · have hlt : k = v.m.length := by have : v.m.length ≤ k := by simpa [rowsM_len] using hb
                                        omega
        subst hlt
        rw [List.take_length]
        refine AK.exit rfl ?_
        (repeat (first | apply kS | apply kB | apply kL | apply kN | refine kA follows_any ?_))
        refine AK.ret ⟨_, rfl, ?_⟩
        rw [hve]
        rfl
theorem treeDepth_a (n : Nat) : ∀ v : V, v.size ≤ n → v.size ≤ 2000000000000 → AC Tryz.prog 53 [.agg [.int .i64 (v).kind, .bool (v).b, .int .i64 (v).n, .str (v).s, .lst .any 6 (rowsV (v).l), .lst .any 7 (rowsM (v).m)]] (.int .i64 v.depth) := by
  induction n with
  | zero => intro v h; have := v.size_pos; omega
  | succ n ih =>
    intro v hn hsz
    have hve := v.size_eq
    have hde := v.depth_eq
    have hds := v.depth_le_size'
    have hll := len_le_sizeL v.l
    have hlm := len_le_sizeM v.m
    refine AC.enter Tryz.func53 a_tree_Depth_ok a_tree_Depth_cb (by rfl) fun E hE => ?_
    show AK _ _ _ [.c b_tree_Depth] _ _
    rw [b_tree_Depth]
    (repeat (first | apply kS | apply kB | apply kL | apply kN | refine kA follows_any ?_))
    refine AK.loopI (fun k : Nat => (frOf [(1, .ptr 1 0), (3, .int .i64 (depthL (v.l.take k) : Nat)), (9, .lst .any 6 (rowsV v.l)), (10, .int .i64 (rowsV v.l).length), (11, .int .i64 k)], ⟨boxOf [(1, [.int .i64 (v).kind, .bool (v).b, .int .i64 (v).n, .str (v).s, .lst .any 6 (rowsV (v).l), .lst .any 7 (rowsM (v).m)], false)], fun _ => 0⟩)) (fun k => k ≤ v.l.length) (fun k => v.l.length - k) 0 (by omega) (Weak.intro ⟨⟨_, rfl, .refl _⟩, ⟨_, rfl, .refl _⟩, ⟨_, rfl, .refl _⟩, ⟨_, rfl, .refl _⟩, ⟨_, rfl, .refl _⟩, trivial⟩ ⟨⟨_, rfl, leL_refl _⟩, trivial⟩ rfl rfl) fun k hk => ?_
    (repeat (first | apply kS | apply kB | apply kL | apply kN | refine kA follows_any ?_))
    refine AK.cond (by rfl) (fun hb => ?_) (fun hb => ?_)
    · have hlt : k < v.l.length := by simpa [rowsV_len] using hb
      obtain ⟨x, hg⟩ : ∃ x, v.l[k]? = some x := ⟨_, List.getElem?_eq_getElem hlt⟩
      have hx := sizeL_take hg
      have hx2 := sizeL_take_le v.l (k + 1)
      have hd := depthL_take hg
      (repeat (first | apply kS | apply kB | apply kL | apply kN | refine kA follows_any ?_))
      refine kR follows_any [.c [.int .i64 (x).kind, .bool (x).b, .int .i64 (x).n, .str (x).s, .lst .any 6 (rowsV (x).l), .lst .any 7 (rowsM (x).m)]] (by rfl) ?_ ?_
      · ((repeat' apply And.intro) <;> first | exact kD | (intro hgd; refine ⟨?_, kG⟩; (repeat' apply And.intro) <;> first | exact kD | skip) | skip)
        · exact rowsV_at hg
      (repeat (first | apply kS | apply kB | apply kL | apply kN | refine kA follows_any ?_))
      refine kR follows_any [.v (.int .i64 x.depth)] (by rfl) ?_ ?_
      · ((repeat' apply And.intro) <;> first | exact kD | (intro hgd; refine ⟨?_, kG⟩; (repeat' apply And.intro) <;> first | exact kD | skip) | skip)
        · exact ih x (by omega) (by omega)
      (repeat (first | apply kS | apply kB | apply kL | apply kN | refine kA follows_any ?_))
      refine AK.lp ⟨k + 1, by omega, Weak.intro ⟨⟨_, rfl, .refl _⟩, ⟨_, rfl, .of_eq (congrArg (AV.int _) ?_)⟩, ⟨_, rfl, .refl _⟩, ⟨_, rfl, .refl _⟩, ⟨_, rfl, .of_eq (congrArg _ (by first | omega | (rw [wrap_in (by omega) (by omega)]; omega)))⟩, trivial⟩ ⟨⟨_, rfl, leL_refl _⟩, trivial⟩ rfl rfl, by omega⟩
      exact (max_cast _ _).trans (by rw [hd])
    · have hlt : k = v.l.length := by have : v.l.length ≤ k := by simpa [rowsV_len] using hb
                                      omega
      subst hlt
      rw [List.take_length]
      refine AK.exit rfl ?_
      (repeat (first | apply kS | apply kB | apply kL | apply kN | refine kA follows_any ?_))
      refine AK.loopI (fun k : Nat => (frOf [(1, .ptr 1 0), (3, .int .i64 (max (depthL v.l) (depthM (v.m.take k)) : Nat)), (21, .lst .any 7 (rowsM v.m)), (22, .int .i64 (rowsM v.m).length), (23, .int .i64 k)], ⟨boxOf [(1, [.int .i64 (v).kind, .bool (v).b, .int .i64 (v).n, .str (v).s, .lst .any 6 (rowsV (v).l), .lst .any 7 (rowsM (v).m)], false)], fun _ => 0⟩)) (fun k => k ≤ v.m.length) (fun k => v.m.length - k) 0 (by omega) (Weak.intro ⟨⟨_, rfl, .refl _⟩, ⟨_, rfl, .of_eq (by simp [depthM])⟩, ⟨_, rfl, .refl _⟩, ⟨_, rfl, .refl _⟩, ⟨_, rfl, .refl _⟩, trivial⟩ ⟨⟨_, rfl, leL_refl _⟩, trivial⟩ rfl rfl) fun k hk => ?_
      (repeat (first | apply kS | apply kB | apply kL | apply kN | refine kA follows_any ?_))
      refine AK.cond (by rfl) (fun hb => ?_) (fun hb => ?_)
      · have hlt : k < v.m.length := by simpa [rowsM_len] using hb
        obtain ⟨⟨y, x⟩, hg⟩ : ∃ x, v.m[k]? = some x := ⟨_, List.getElem?_eq_getElem hlt⟩
        have hx := sizeM_take hg
        have hx2 := sizeM_take_le v.m (k + 1)
        have hd := depthM_take hg
        (repeat (first | apply kS | apply kB | apply kL | apply kN | refine kA follows_any ?_))
        refine kR follows_any [.c (.str y :: [.int .i64 (x).kind, .bool (x).b, .int .i64 (x).n, .str (x).s, .lst .any 6 (rowsV (x).l), .lst .any 7 (rowsM (x).m)])] (by rfl) ?_ ?_
        · ((repeat' apply And.intro) <;> first | exact kD | (intro hgd; refine ⟨?_, kG⟩; (repeat' apply And.intro) <;> first | exact kD | skip) | skip)
          · exact rowsM_at hg
        (repeat (first | apply kS | apply kB | apply kL | apply kN | refine kA follows_any ?_))
        refine kR follows_any [.v (.int .i64 x.depth)] (by rfl) ?_ ?_
        · ((repeat' apply And.intro) <;> first | exact kD | (intro hgd; refine ⟨?_, kG⟩; (repeat' apply And.intro) <;> first | exact kD | skip) | skip)
          · exact ih x (by omega) (by omega)
        (repeat (first | apply kS | apply kB | apply kL | apply kN | refine kA follows_any ?_))
        refine AK.lp ⟨k + 1, by omega, Weak.intro ⟨⟨_, rfl, .refl _⟩, ⟨_, rfl, .of_eq (congrArg (AV.int _) ?_)⟩, ⟨_, rfl, .refl _⟩, ⟨_, rfl, .refl _⟩, ⟨_, rfl, .of_eq (congrArg _ (by first | omega | (rw [wrap_in (by omega) (by omega)]; omega)))⟩, trivial⟩ ⟨⟨_, rfl, leL_refl _⟩, trivial⟩ rfl rfl, by omega⟩
        exact (max_cast _ _).trans (congrArg Int.ofNat (by rw [hd]; omega))
      · have hlt : k = v.m.length := by have : v.m.length ≤ k := by simpa [rowsM_len] using hb
                                        omega
        subst hlt
        rw [List.take_length]
        refine AK.exit rfl ?_
        (repeat (first | apply kS | apply kB | apply kL | apply kN | refine kA follows_any ?_))
        refine AK.ret ⟨_, rfl, ?_⟩
        rw [wrap_in (by omega) (by omega), hde]
        rfl
theorem treeText_a (s : ByteArray) (hs : s.size ≤ 140737488355328) : AC Tryz.prog 97 [.str s] (.bool (textB s)) := by
  refine AC.enter Tryz.func97 a_tree_Text_ok a_tree_Text_cb (by rfl) fun E hE => ?_
  show AK _ _ _ [.c b_tree_Text] _ _
  rw [b_tree_Text]
  (repeat (first | apply kS | apply kB | apply kL | apply kN | refine kA follows_any ?_))
  refine AK.loopI (fun k : Nat => (frOf [(0, .str s), (6, .int .i64 s.size), (7, .int .i64 k)], ⟨boxOf [], fun _ => 0⟩)) (fun k => k ≤ s.size ∧ allTo okT s k) (fun k => s.size - k) 0 ⟨by omega, allTo_zero _ _⟩ (Weak.intro ⟨⟨_, rfl, .refl _⟩, ⟨_, rfl, .refl _⟩, ⟨_, rfl, .refl _⟩, trivial⟩ trivial rfl rfl) fun k ⟨hk, hno⟩ => ?_
  (repeat (first | apply kS | apply kB | apply kL | apply kN | refine kA follows_any ?_))
  refine AK.cond (by rfl) (fun hb => ?_) (fun hb => ?_)
  · have hlt : k < s.size := by simpa using hb
    (repeat (first | apply kS | apply kB | apply kL | apply kN | refine kA follows_any ?_))
    refine kR follows_any [] (by rfl) ?_ ?_
    · ((repeat' apply And.intro) <;> first | exact kD | (intro hgd; refine ⟨?_, kG⟩; (repeat' apply And.intro) <;> first | exact kD | skip) | skip)
    rw [show s.data.getD (k : Int).toNat 0 = s[k] from byte_at hlt]
    (repeat (first | apply kS | apply kB | apply kL | apply kN | refine kA follows_any ?_))
    refine kR follows_any [] (by rfl) ?_ ?_
    · ((repeat' apply And.intro) <;> first | exact kD | (intro hgd; refine ⟨?_, kG⟩; (repeat' apply And.intro) <;> first | exact kD | skip) | skip)
    refine AK.cond (by rfl) (fun hb => ?_) (fun hb => ?_)
    · (repeat (first | apply kS | apply kB | apply kL | apply kN | refine kA follows_any ?_))
      refine AK.ret ⟨_, rfl, ?_⟩
      have hf : okT s[k] = false := by
        simp only [Bool.or_eq_true, Bool.and_eq_true, Bool.not_eq_true', decide_eq_true_eq, decide_eq_false_iff_not] at hb
        simp only [okT, Bool.or_eq_false_iff, Bool.and_eq_false_iff, decide_eq_false_iff_not, beq_eq_false_iff_ne, ne_eq]
        omega
      rw [textB, allB_false hlt hf]
      rfl
    · have ht : okT s[k] = true := by
        simp only [Bool.or_eq_false_iff, Bool.and_eq_false_iff, Bool.not_eq_false', decide_eq_true_eq, decide_eq_false_iff_not] at hb
        simp only [okT, Bool.or_eq_true, Bool.and_eq_true, decide_eq_true_eq, beq_iff_eq]
        omega
      (repeat (first | apply kS | apply kB | apply kL | apply kN | refine kA follows_any ?_))
      exact AK.lp ⟨k + 1, ⟨by omega, allTo_succ hno hlt ht⟩, Weak.intro ⟨⟨_, rfl, .refl _⟩, ⟨_, rfl, .refl _⟩, ⟨_, rfl, .of_eq (congrArg _ (by first | omega | (rw [wrap_in (by omega) (by omega)]; omega)))⟩, trivial⟩ trivial rfl rfl, by omega⟩
  · have hlt : k = s.size := by have : s.size ≤ k := by simpa using hb
                                omega
    subst hlt
    refine AK.exit rfl ?_
    (repeat (first | apply kS | apply kB | apply kL | apply kN | refine kA follows_any ?_))
    refine AK.ret ⟨_, rfl, ?_⟩
    show AV.bool _ = AV.bool _
    refine congrArg AV.bool ?_
    rw [textB, allB_true hno, Bool.eq_iff_iff]
    simp
    try omega
theorem contains1_a (s : ByteArray) (c : UInt8) : AC Tryz.prog 124 [.str s, .str ⟨#[c]⟩] (.bool (decide (c ∈ s.data.toList))) := by
  refine ⟨by kernel_rfl, fun σ w vs hh hr hg => ?_⟩
  obtain ⟨v1, v2, rfl, h1, h2⟩ := two_args hr
  have h1 : Rel1 σ v1 (.str s) := h1
  have h2 : Rel1 σ v2 (.str ⟨#[c]⟩) := h2
  cases h1; cases h2
  refine (Tryz.strings_Contains_one s c w).mono ?_
  rintro e w' ⟨rfl, rfl⟩
  have e : decide (0 ≤ Lib.indexByte s.data.toList c) = decide (c ∈ s.data.toList) := by
    rcases ix_cases s.data.toList c with ⟨h1, h2⟩ | ⟨i, h1, h2, h3, h4⟩
    · rw [h1, decide_eq_false h2]; rfl
    · rw [h1, decide_eq_true (show 0 ≤ (i : Int) by omega), decide_eq_true (List.mem_of_getElem? h3)]
  rw [e]
  exact ⟨σ, _, rfl, Ext.refl _ _, hh, Below.refl _ _, .bool _⟩
theorem key_eq (s : ByteArray) : keyB s = ((decide (1 ≤ s.size) && decide (s.size ≤ 256)) && textB s && !decide (10 ∈ s.data.toList) && !decide (9 ∈ s.data.toList)) := by
  rw [Bool.eq_iff_iff]
  simp only [keyB, textB, allB, Bool.and_eq_true, Bool.not_eq_true', decide_eq_true_eq, decide_eq_false_iff_not, List.all_eq_true]
  constructor
  · rintro ⟨h1, h2, h3⟩
    refine ⟨⟨⟨⟨h2, h3⟩, fun x hx => ?_, by omega⟩, fun hm => ?_⟩, fun hm => ?_⟩
    · have := h1 x hx
      simp only [okK, Bool.and_eq_true, decide_eq_true_eq] at this
      simp [okT, this]
    · have := h1 _ hm
      exact absurd this (by decide)
    · have := h1 _ hm
      exact absurd this (by decide)
  · rintro ⟨⟨⟨⟨h2, h3⟩, h1, _⟩, h10⟩, h9⟩
    refine ⟨fun x hx => ?_, h2, h3⟩
    have := h1 x hx
    simp only [okT, Bool.or_eq_true, Bool.and_eq_true, decide_eq_true_eq, beq_iff_eq] at this
    simp only [okK, Bool.and_eq_true, decide_eq_true_eq]
    rcases this with (h | h) | h
    · exact h
    · exact absurd (show (9 : UInt8) ∈ s.data.toList by rw [← show x = 9 from UInt8.toNat_inj.1 h]; exact hx) h9
    · exact absurd (show (10 : UInt8) ∈ s.data.toList by rw [← show x = 10 from UInt8.toNat_inj.1 h]; exact hx) h10
theorem treeKey_a (s : ByteArray) (hs : s.size ≤ 140737488355328) : AC Tryz.prog 98 [.str s] (.bool (keyB s)) := by
  have h1 := treeText_a s hs
  have h2 := contains1_a s 10
  have h3 := contains1_a s 9
  refine AC.enter Tryz.func98 a_tree_Key_ok a_tree_Key_cb (by rfl) fun E hE => ?_
  show AK _ _ _ [.c b_tree_Key] _ _
  rw [b_tree_Key]
  (repeat (first | apply kS | apply kB | apply kL | apply kN | refine kA follows_any ?_))
  refine kR follows_any [.v (.bool (textB s)), .v (.bool (decide (10 ∈ s.data.toList))), .v (.bool (decide (9 ∈ s.data.toList)))] (by rfl) ?_ ?_
  · ((repeat' apply And.intro) <;> first | exact kD | (intro hgd; refine ⟨?_, kG⟩; (repeat' apply And.intro) <;> first | exact kD | skip) | skip)
  (repeat (first | apply kS | apply kB | apply kL | apply kN | refine kA follows_any ?_))
  refine AK.ret ⟨_, rfl, ?_⟩
  refine congrArg AV.bool ?_
  rw [key_eq]
  have hz := sz0 s
  by_cases h0 : s.size = 0
  · have := hz.2 h0
    subst this
    rfl
  · have hn : ¬ s = ⟨#[]⟩ := fun e => h0 (hz.1 e)
    have h1' : 1 ≤ s.size := by omega
    have h256 : decide ((s.size : Int) ≤ 256) = decide (s.size ≤ 256) := by rw [Bool.eq_iff_iff]; simp; omega
    rw [decide_eq_false hn, decide_eq_true h1', h256]
    rfl
end Go.Proofs.YtgekcnpfflhpkaaGreatDoor
/-
  tree.bare, walked.
-/
namespace Go.Proofs.YtgekcnpfflhpkaaGreatDoor
set_option linter.unusedSimpArgs false
set_option linter.unusedVariables false
open Go.RowKit

theorem run_idx6 (cs : Array Value) (j : Nat) (b : Bool) (hj : j < 6) (hu : cs[j]? = some (.bool b)) (w : World) : (Instr.index 134 (.agg cs) (.int .i64 j)).run Tryz.prog w = .ok (.bool b) w := by
  have h1 : ((j : Int) < 6) := by omega
  have h2 : ¬ 6 ≤ j := by omega
  simp [Instr.index, asIntOf, run_underlying Tryz.underlying134, h1, part, Tryz.isAgg4, Tryz.sizeOf4, hu, h2]
theorem wpList_index_arr {P : Program} {ops : Array Oper} {rest : List Oper} {tmps : Array Value} {df : List Deferred} {w : World} {Q : Exit → Act → World → Prop} {d : Option Tmp} {ty0 : TypeId} {ps : String} {af : Array Edge}
    (p q : Tmp) (ty : TypeId) (cs : Array Value) (i u : Value) (hp : tmps.getD p undef = .agg cs) (hq : tmps.getD q undef = i) (hrun : (Instr.index ty (.agg cs) i).run P w = .ok u w)
    (h : wpList P ops Q rest (({ tmps := tmps, defers := df } : Act).put d u) w) :
    wpList P ops Q ({ dst := d, op := .index ty (.tmp p) (.tmp q), type := ty0, pos := ps, after := af, guard := none } :: rest) { tmps := tmps, defers := df } w := by
  refine wpList_plain rfl fun K hK => ?_
  have e1 : ({ tmps := tmps, defers := df } : Act).eval (.tmp p) = .agg cs := hp
  have e2 : ({ tmps := tmps, defers := df } : Act).eval (.tmp q) = i := hq
  unfold Oper.wp execOp
  simp only [e1, e2, Sem.run_bind, Sem.run_pure, Result.andThen_ok, hrun]
  exact hK _ _ h
/-- does a value have what is another kind's? -/
def kbAt (kind : Int) (b1 b2 b3 b4 b5 : Bool) (k : Nat) : Bool := (match k with | 1 => b1 | 2 => b2 | 3 => b3 | 4 => b4 | 5 => b5 | _ => false) && decide ((k : Int) ≠ kind)
def kbTo (kind : Int) (b1 b2 b3 b4 b5 : Bool) : Nat → Bool
  | 0 => true
  | k + 1 => kbTo kind b1 b2 b3 b4 b5 k && !kbAt kind b1 b2 b3 b4 b5 k
theorem kbTo_le {kind : Int} {b1 b2 b3 b4 b5 : Bool} {k : Nat} (h : kbAt kind b1 b2 b3 b4 b5 k = true) (n : Nat) : kbTo kind b1 b2 b3 b4 b5 (k + 1 + n) = false := by
  induction n with
  | zero => rw [Nat.add_zero, kbTo, h]; simp
  | succ n ih => rw [← Nat.add_assoc, kbTo, ih]; rfl
theorem kbTo_six (kind : Int) (b1 b2 b3 b4 b5 : Bool) : kbTo kind b1 b2 b3 b4 b5 6 = (!(b1 && decide ((1 : Int) ≠ kind)) && !(b2 && decide ((2 : Int) ≠ kind)) && !(b3 && decide ((3 : Int) ≠ kind)) && !(b4 && decide ((4 : Int) ≠ kind)) && !(b5 && decide ((5 : Int) ≠ kind))) := by
  simp only [kbTo, kbAt, Bool.true_and, Bool.false_and, Bool.not_false]
  rfl
set_option maxHeartbeats 4000000 in
set_option maxRecDepth 100000 in
theorem bare_any0 (kind : Int) (b : Bool) (n : Int) (s : ByteArray) (A1 A2 : Option Addr) (l m c1 c2 : Nat) (w : World) :
    Calls Tryz.prog 96 #[.agg #[.int .i64 kind, .bool b, .int .i64 n, .string s, .slice A1 l c1, .slice A2 m c2]] w fun e w' => e = .returned (.bool (kbTo kind b (n != 0) (!s.toList.isEmpty) (decide (0 < l)) (decide (0 < m)) 6 && (decide (0 ≤ kind) && decide (kind ≤ 5)))) ∧ Below w.heap.size w w' := by
  obtain ⟨R, hR⟩ : ∃ R, (kbTo kind b (n != 0) (!s.toList.isEmpty) (decide (0 < l)) (decide (0 < m)) 6 && (decide (0 ≤ kind) && decide (kind ≤ 5))) = R := ⟨_, rfl⟩
  rw [hR]
  go_enter Tryz.func96, Tryz.ntmps96
  go_wp2_with fail
  generalize (n != 0) = b2 at hR ⊢
  generalize (!s.toList.isEmpty) = b3 at hR ⊢
  generalize (decide (0 < l)) = b4 at hR ⊢
  generalize (decide (0 < m)) = b5 at hR ⊢
  have HR := Lib.hid hR
  clear hR
  obtain ⟨W, hW⟩ : ∃ W : World, W = (w.alloc (.cells #[.int .i64 kind, .bool b, .int .i64 n, .string s, .slice A1 l c1, .slice A2 m c2] 28)).alloc (.cells #[.bool false, .bool b, .bool b2, .bool b3, .bool b4, .bool b5] 134) := ⟨_, rfl⟩
  have k0 : W.cell? ⟨w.heap.size, 0, none⟩ = some (.int .i64 kind) := by
    rw [hW, World.cell?_alloc_lt _ _ _ (by simp), World.cell?_alloc_at _ _ _ _ rfl]; rfl
  have hbW : Below w.heap.size w W := by
    rw [hW]; exact ((Below.refl _ _).alloc (Nat.le_refl _) _).alloc (by simp) _
  rw [← hW]
  have HB := Lib.hid hbW
  clear hW hbW
  go_loopw [24] (fun i wr => ∃ k : Nat, k ≤ 6 ∧ i = .int .i64 k ∧ wr = W ∧ Hid (kbTo kind b b2 b3 b4 b5 k = true)) (fun i _ => 6 - (intOf i).toNat)
  case atStart => exact ⟨0, by omega, rfl, rfl, Lib.hid rfl⟩
  case round =>
    obtain ⟨k, hk, rfl, rfl, hT⟩ := hrel
    have hT' := hT.out
    clear hT
    have hcs : k = 0 ∨ k = 1 ∨ k = 2 ∨ k = 3 ∨ k = 4 ∨ k = 5 ∨ k = 6 := by omega
    have hst : k < 6 → kbAt kind b b2 b3 b4 b5 k = false → Hid (kbTo kind b b2 b3 b4 b5 (k + 1) = true) := fun _ h => Lib.hid (by rw [kbTo, hT', h]; rfl)
    have hbad : k < 6 → kbAt kind b b2 b3 b4 b5 k = true → R = false := fun h1 h => by
      rw [← HR.out]
      have := kbTo_le h (5 - k)
      rw [show k + 1 + (5 - k) = 6 by omega] at this
      rw [this]; rfl
    rcases hcs with rfl | rfl | rfl | rfl | rfl | rfl | rfl
    · have H := hst (by omega) rfl
      clear hst hbad hT'
      go_wp2_with (refine wpList_index_arr 23 24 134 _ _ (.bool false) rfl rfl (run_idx6 _ 0 false (by omega) rfl _) ?_)
      go_roundw
      case rel => exact ⟨1, by omega, by go_num, trivial, H⟩
      case measure => simp [intOf]
    · cases b with
      | false =>
        have H := hst (by omega) rfl
        clear hst hbad hT'
        go_wp2_with (refine wpList_index_arr 23 24 134 _ _ (.bool false) rfl rfl (run_idx6 _ 1 false (by omega) rfl _) ?_)
        go_roundw
        case rel => exact ⟨2, by omega, by go_num, trivial, H⟩
        case measure => simp [intOf]
      | true =>
        by_cases hkd : (1 : Int) = kind
        · have H := hst (by omega) (by rw [kbAt]; simp [hkd])
          have hkd' : ((1 : Int) != kind) = false := by simp [hkd]
          clear hst hbad hT' hkd
          go_wp2_with (refine wpList_index_arr 23 24 134 _ _ (.bool true) rfl rfl (run_idx6 _ 1 true (by omega) rfl _) ?_)
          go_roundw
          case rel => exact ⟨2, by omega, by go_num, trivial, H⟩
          case measure => simp [intOf]
        · have H := hbad (by omega) (by rw [kbAt]; simp [hkd])
          have hkd' : ((1 : Int) != kind) = true := by simp [hkd]
          clear hst hbad hT' hkd
          go_wp2_with (refine wpList_index_arr 23 24 134 _ _ (.bool true) rfl rfl (run_idx6 _ 1 true (by omega) rfl _) ?_)
          go_ret
          exact ⟨by rw [H]; rfl, HB.out⟩
    · cases b2 with
      | false =>
        have H := hst (by omega) rfl
        clear hst hbad hT'
        go_wp2_with (refine wpList_index_arr 23 24 134 _ _ (.bool false) rfl rfl (run_idx6 _ 2 false (by omega) rfl _) ?_)
        go_roundw
        case rel => exact ⟨3, by omega, by go_num, trivial, H⟩
        case measure => simp [intOf]
      | true =>
        by_cases hkd : (2 : Int) = kind
        · have H := hst (by omega) (by rw [kbAt]; simp [hkd])
          have hkd' : ((2 : Int) != kind) = false := by simp [hkd]
          clear hst hbad hT' hkd
          go_wp2_with (refine wpList_index_arr 23 24 134 _ _ (.bool true) rfl rfl (run_idx6 _ 2 true (by omega) rfl _) ?_)
          go_roundw
          case rel => exact ⟨3, by omega, by go_num, trivial, H⟩
          case measure => simp [intOf]
        · have H := hbad (by omega) (by rw [kbAt]; simp [hkd])
          have hkd' : ((2 : Int) != kind) = true := by simp [hkd]
          clear hst hbad hT' hkd
          go_wp2_with (refine wpList_index_arr 23 24 134 _ _ (.bool true) rfl rfl (run_idx6 _ 2 true (by omega) rfl _) ?_)
          go_ret
          exact ⟨by rw [H]; rfl, HB.out⟩
    · cases b3 with
      | false =>
        have H := hst (by omega) rfl
        clear hst hbad hT'
        go_wp2_with (refine wpList_index_arr 23 24 134 _ _ (.bool false) rfl rfl (run_idx6 _ 3 false (by omega) rfl _) ?_)
        go_roundw
        case rel => exact ⟨4, by omega, by go_num, trivial, H⟩
        case measure => simp [intOf]
      | true =>
        by_cases hkd : (3 : Int) = kind
        · have H := hst (by omega) (by rw [kbAt]; simp [hkd])
          have hkd' : ((3 : Int) != kind) = false := by simp [hkd]
          clear hst hbad hT' hkd
          go_wp2_with (refine wpList_index_arr 23 24 134 _ _ (.bool true) rfl rfl (run_idx6 _ 3 true (by omega) rfl _) ?_)
          go_roundw
          case rel => exact ⟨4, by omega, by go_num, trivial, H⟩
          case measure => simp [intOf]
        · have H := hbad (by omega) (by rw [kbAt]; simp [hkd])
          have hkd' : ((3 : Int) != kind) = true := by simp [hkd]
          clear hst hbad hT' hkd
          go_wp2_with (refine wpList_index_arr 23 24 134 _ _ (.bool true) rfl rfl (run_idx6 _ 3 true (by omega) rfl _) ?_)
          go_ret
          exact ⟨by rw [H]; rfl, HB.out⟩
    · cases b4 with
      | false =>
        have H := hst (by omega) rfl
        clear hst hbad hT'
        go_wp2_with (refine wpList_index_arr 23 24 134 _ _ (.bool false) rfl rfl (run_idx6 _ 4 false (by omega) rfl _) ?_)
        go_roundw
        case rel => exact ⟨5, by omega, by go_num, trivial, H⟩
        case measure => simp [intOf]
      | true =>
        by_cases hkd : (4 : Int) = kind
        · have H := hst (by omega) (by rw [kbAt]; simp [hkd])
          have hkd' : ((4 : Int) != kind) = false := by simp [hkd]
          clear hst hbad hT' hkd
          go_wp2_with (refine wpList_index_arr 23 24 134 _ _ (.bool true) rfl rfl (run_idx6 _ 4 true (by omega) rfl _) ?_)
          go_roundw
          case rel => exact ⟨5, by omega, by go_num, trivial, H⟩
          case measure => simp [intOf]
        · have H := hbad (by omega) (by rw [kbAt]; simp [hkd])
          have hkd' : ((4 : Int) != kind) = true := by simp [hkd]
          clear hst hbad hT' hkd
          go_wp2_with (refine wpList_index_arr 23 24 134 _ _ (.bool true) rfl rfl (run_idx6 _ 4 true (by omega) rfl _) ?_)
          go_ret
          exact ⟨by rw [H]; rfl, HB.out⟩
    · cases b5 with
      | false =>
        have H := hst (by omega) rfl
        clear hst hbad hT'
        go_wp2_with (refine wpList_index_arr 23 24 134 _ _ (.bool false) rfl rfl (run_idx6 _ 5 false (by omega) rfl _) ?_)
        go_roundw
        case rel => exact ⟨6, by omega, by go_num, trivial, H⟩
        case measure => simp [intOf]
      | true =>
        by_cases hkd : (5 : Int) = kind
        · have H := hst (by omega) (by rw [kbAt]; simp [hkd])
          have hkd' : ((5 : Int) != kind) = false := by simp [hkd]
          clear hst hbad hT' hkd
          go_wp2_with (refine wpList_index_arr 23 24 134 _ _ (.bool true) rfl rfl (run_idx6 _ 5 true (by omega) rfl _) ?_)
          go_roundw
          case rel => exact ⟨6, by omega, by go_num, trivial, H⟩
          case measure => simp [intOf]
        · have H := hbad (by omega) (by rw [kbAt]; simp [hkd])
          have hkd' : ((5 : Int) != kind) = true := by simp [hkd]
          clear hst hbad hT' hkd
          go_wp2_with (refine wpList_index_arr 23 24 134 _ _ (.bool true) rfl rfl (run_idx6 _ 5 true (by omega) rfl _) ?_)
          go_ret
          exact ⟨by rw [H]; rfl, HB.out⟩
    · have hR2 := HR.out
      rw [hT', Bool.true_and] at hR2
      clear hst hbad hT' HR
      by_cases h0 : 0 ≤ kind
      · by_cases h5 : kind ≤ 5
        · have hRt : R = true := by rw [← hR2]; simp [h0, h5]
          clear hR2
          go_wp2
          go_ret
          exact ⟨by first | rfl | (rw [hRt]; rfl), HB.out⟩
        · have hRf : R = false := by rw [← hR2]; simp [h5]
          clear hR2
          go_wp2
          go_ret
          exact ⟨by first | rfl | (rw [hRf]; rfl), HB.out⟩
      · have hRf : R = false := by rw [← hR2]; simp [h0]
        clear hR2
        go_wp2
        go_ret
        exact ⟨by first | rfl | (rw [hRf]; rfl), HB.out⟩
end Go.Proofs.YtgekcnpfflhpkaaGreatDoor
