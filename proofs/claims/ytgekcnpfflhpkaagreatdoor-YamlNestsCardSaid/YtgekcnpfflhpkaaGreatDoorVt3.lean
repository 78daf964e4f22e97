/-
  What is wrong with a value: the program's function, walked.
-/
import Derived.Test.YtgekcnpfflhpkaaGreatDoorVt1
namespace Go.Proofs.YtgekcnpfflhpkaaGreatDoor
set_option linter.unusedSimpArgs false
set_option linter.unusedVariables false
open Go.RowKit

theorem bare_kbad (kind : Int) (b : Bool) (n : Int) (s : ByteArray) (l m : Nat) : (kbTo kind b (n != 0) (!s.toList.isEmpty) (decide (0 < l)) (decide (0 < m)) 6 && (decide (0 ≤ kind) && decide (kind ≤ 5))) = !kbad kind b n s l m := by
  have hs : (!s.toList.isEmpty) = decide (s ≠ noBytes) := by
    by_cases h : s = noBytes
    · subst h
      rw [show noBytes.toList = [] from Lib.toList_data _]
      simp
    · rw [decide_eq_true h]
      have hz : ¬ s.size = 0 := fun e => h ((sz0 s).2 e)
      cases hl : s.toList with
      | nil =>
        exfalso
        rw [Lib.toList_data] at hl
        have : s.data.toList.length = s.size := rfl
        rw [hl] at this
        exact hz this.symm
      | cons a l => rfl
  rw [kbTo_six, hs]
  unfold kbad
  rw [Bool.eq_iff_iff]
  simp only [Bool.and_eq_true, Bool.not_eq_true', Bool.and_eq_false_iff, Bool.or_eq_false_iff, decide_eq_true_eq, decide_eq_false_iff_not, bne_iff_ne, ne_eq, bne_eq_false_iff_eq, Decidable.not_not, Nat.not_lt, Int.not_lt]
  constructor
  · rintro ⟨⟨⟨⟨⟨h1, h2⟩, h3⟩, h4⟩, h5⟩, h0, h6⟩
    exact ⟨⟨⟨⟨⟨⟨h0, h6⟩, h1.symm.imp (fun e => e.symm) id⟩, h2.symm.imp (fun e => e.symm) id⟩, h3.symm.imp (fun e => e.symm) id⟩, h4.symm.imp (fun e => e.symm) id⟩, h5.symm.imp (fun e => e.symm) id⟩
  · rintro ⟨⟨⟨⟨⟨⟨h0, h6⟩, h1⟩, h2⟩, h3⟩, h4⟩, h5⟩
    exact ⟨⟨⟨⟨⟨h1.symm.imp id (fun e => e.symm), h2.symm.imp id (fun e => e.symm)⟩, h3.symm.imp id (fun e => e.symm)⟩, h4.symm.imp id (fun e => e.symm)⟩, h5.symm.imp id (fun e => e.symm)⟩, h0, h6⟩
theorem tbare_a (v : V) : AC Tryz.prog 96 [.agg [.int .i64 (v).kind, .bool (v).b, .int .i64 (v).n, .str (v).s, .lst .any 6 (rowsV (v).l), .lst .any 7 (rowsM (v).m)]] (.bool (!kbad v.kind v.b v.n v.s v.l.length v.m.length)) := by
  refine ⟨by kernel_rfl, fun σ w vs hh hr hg => ?_⟩
  obtain ⟨v1, rfl⟩ := List.length_eq_one_iff.1 hr.1
  have h1 : RelP σ v1 (.agg [.int .i64 (v).kind, .bool (v).b, .int .i64 (v).n, .str (v).s, .lst .any 6 (rowsV (v).l), .lst .any 7 (rowsM (v).m)]) := hr.2 0 v1 _ rfl rfl
  obtain ⟨cs, rfl, hcs⟩ := h1
  have hlen := hcs.1
  obtain ⟨x1, x2, x3, x4, x5, x6, rfl⟩ : ∃ a b c d e f, cs = [a, b, c, d, e, f] := by
    rcases cs with _ | ⟨a, _ | ⟨b, _ | ⟨c, _ | ⟨d, _ | ⟨e, _ | ⟨f, _ | ⟨g, l⟩⟩⟩⟩⟩⟩⟩ <;> simp at hlen
    exact ⟨a, b, c, d, e, f, rfl⟩
  have r0 := hcs.2 0 x1 (.int .i64 v.kind) rfl rfl
  have r1 := hcs.2 1 x2 (.bool v.b) rfl rfl
  have r2 := hcs.2 2 x3 (.int .i64 v.n) rfl rfl
  have r3 := hcs.2 3 x4 (.str v.s) rfl rfl
  have r4 := hcs.2 4 x5 (.lst .any 6 (rowsV v.l)) rfl rfl
  have r5 := hcs.2 5 x6 (.lst .any 7 (rowsM v.m)) rfl rfl
  cases r0; cases r1; cases r2; cases r3
  obtain ⟨A1, c1, b1, o1, n1, rfl, _⟩ := lst_cells r4
  obtain ⟨A2, c2, b2, o2, n2, rfl, _⟩ := lst_cells r5
  have h := bare_any0 v.kind v.b v.n v.s A1 A2 (rowsV v.l).length (rowsM v.m).length c1 c2 w
  rw [bare_kbad, rowsV_len, rowsM_len] at h
  rw [rowsV_len, rowsM_len]
  refine h.mono ?_
  rintro e w' ⟨rfl, hb⟩
  exact ⟨σ, _, rfl, Ext.refl _ _, fun b q v hv => (hb.cell (p := ⟨b, q, none⟩) (World.block_lt_of_cell? w _ (hh _ _ _ hv))).trans (hh _ _ _ hv), hb, .bool _⟩
theorem kbad_neg {a : Bool} (h : (!(!a)) = true) : a = true := by simpa using h
theorem noRise_ge {m : List (ByteArray × V)} {k : Nat} {y z : ByteArray} {x' : V} (hz : 0 < k → m[k - 1]? = some (z, x')) : noRise (prevK m k) y = (decide ((k : Int) > 0) && !Op.bytesLess z.toList y.toList) := by
  cases k with
  | zero => simp [prevK, noRise]
  | succ k =>
    have := hz (by omega)
    simp only [Nat.add_sub_cancel] at this
    have e : decide (((k + 1 : Nat) : Int) > 0) = true := decide_eq_true (by omega)
    rw [prevK, this, e]; simp [noRise]
set_option maxRecDepth 4000 in
theorem treeParts_a (n : Nat) : ∀ v : V, v.size ≤ n → v.sb → v.size ≤ 2000000000000 → AC Tryz.prog 55 [.agg [.int .i64 (v).kind, .bool (v).b, .int .i64 (v).n, .str (v).s, .lst .any 6 (rowsV (v).l), .lst .any 7 (rowsM (v).m)]] (.int .i64 v.partsC) := by
  induction n with
  | zero => intro v h; have := v.size_pos; omega
  | succ n ih =>
    intro v hn hsb hsz
    have hve := v.size_eq
    have hll := len_le_sizeL v.l
    have hlm := len_le_sizeM v.m
    refine AC.enter Tryz.func55 a_tree_parts_ok a_tree_parts_cb (by rfl) fun E hE => ?_
    show AK _ _ _ [.c b_tree_parts] _ _
    rw [b_tree_parts]
    (repeat (first | apply kS | apply kB | apply kL | apply kN | refine kA follows_any ?_))
    refine kR follows_any [.v (.bool (!kbad v.kind v.b v.n v.s v.l.length v.m.length))] (by rfl) ?_ ?_
    · ((repeat' apply And.intro) <;> first | exact kD | (intro hgd; refine ⟨?_, kG⟩; (repeat' apply And.intro) <;> first | exact kD | skip) | skip)
      · exact tbare_a v
    refine AK.cond (by rfl) (fun hb => ?_) (fun hb => ?_)
    · (repeat (first | apply kS | apply kB | apply kL | apply kN | refine kA follows_any ?_))
      refine AK.ret ⟨_, rfl, ?_⟩
      exact congrArg (AV.int _) (partsC_kind (by simpa using hb)).symm
    have hk0 : kbad v.kind v.b v.n v.s v.l.length v.m.length = false := by simpa using hb
    (repeat (first | apply kS | apply kB | apply kL | apply kN | refine kA follows_any ?_))
    refine kR follows_any [.v (.bool (textB v.s))] (by rfl) ?_ ?_
    · ((repeat' apply And.intro) <;> first | exact kD | (intro hgd; refine ⟨?_, kG⟩; (repeat' apply And.intro) <;> first | exact kD | skip) | skip)
      · exact treeText_a _ (sb_s hsb)
    refine AK.cond (by rfl) (fun hb => ?_) (fun hb => ?_)
    · (repeat (first | apply kS | apply kB | apply kL | apply kN | refine kA follows_any ?_))
      refine AK.ret ⟨_, rfl, ?_⟩
      exact congrArg (AV.int _) (partsC_text hk0 (by simpa using hb)).symm
    have ht0 : textB v.s = true := by simpa using hb
    (repeat (first | apply kS | apply kB | apply kL | apply kN | refine kA follows_any ?_))
    refine AK.loopI (fun k : Nat => (frOf [(1, .ptr 1 0), (19, .lst .any 6 (rowsV v.l)), (20, .int .i64 (rowsV v.l).length), (21, .int .i64 k)], ⟨boxOf [(1, [.int .i64 (v).kind, .bool (v).b, .int .i64 (v).n, .str (v).s, .lst .any 6 (rowsV (v).l), .lst .any 7 (rowsM (v).m)], false)], fun _ => 0⟩)) (fun k => k ≤ v.l.length ∧ partsL (v.l.drop k) = partsL v.l) (fun k => v.l.length - k) 0 ⟨by omega, rfl⟩ (Weak.intro ⟨⟨_, rfl, .refl _⟩, ⟨_, rfl, .refl _⟩, ⟨_, rfl, .refl _⟩, ⟨_, rfl, .refl _⟩, trivial⟩ ⟨⟨_, rfl, leL_refl _⟩, trivial⟩ rfl rfl) fun k ⟨hk, hr⟩ => ?_
    (repeat (first | apply kS | apply kB | apply kL | apply kN | refine kA follows_any ?_))
    refine AK.cond (by rfl) (fun hb => ?_) (fun hb => ?_)
    · have hlt : k < v.l.length := by simpa [rowsV_len] using hb
      obtain ⟨x, hg⟩ : ∃ x, v.l[k]? = some x := ⟨_, List.getElem?_eq_getElem hlt⟩
      have hx := sizeL_take hg
      have hx2 := sizeL_take_le v.l (k + 1)
      rw [partsL_drop hg] at hr
      (repeat (first | apply kS | apply kB | apply kL | apply kN | refine kA follows_any ?_))
      refine kR follows_any [.c [.int .i64 (x).kind, .bool (x).b, .int .i64 (x).n, .str (x).s, .lst .any 6 (rowsV (x).l), .lst .any 7 (rowsM (x).m)]] (by rfl) ?_ ?_
      · ((repeat' apply And.intro) <;> first | exact kD | (intro hgd; refine ⟨?_, kG⟩; (repeat' apply And.intro) <;> first | exact kD | skip) | skip)
        · exact rowsV_at hg
      (repeat (first | apply kS | apply kB | apply kL | apply kN | refine kA follows_any ?_))
      refine kR follows_any [.v (.int .i64 x.partsC)] (by rfl) ?_ ?_
      · ((repeat' apply And.intro) <;> first | exact kD | (intro hgd; refine ⟨?_, kG⟩; (repeat' apply And.intro) <;> first | exact kD | skip) | skip)
        · exact ih x (by omega) (sb_l hsb hg) (by omega)
      (repeat (first | apply kS | apply kB | apply kL | apply kN | refine kA follows_any ?_))
      refine AK.cond (by rfl) (fun hb => ?_) (fun hb => ?_)
      · have he : x.partsC ≠ 0 := by simpa using hb
        rw [if_pos he] at hr
        (repeat (first | apply kS | apply kB | apply kL | apply kN | refine kA follows_any ?_))
        refine AK.ret ⟨_, rfl, ?_⟩
        exact congrArg (AV.int _) (by rw [partsC_list hk0 ht0 (by rw [← hr]; exact he)]; exact hr)
      · have he : ¬ x.partsC ≠ 0 := by simpa using hb
        rw [if_neg he] at hr
        (repeat (first | apply kS | apply kB | apply kL | apply kN | refine kA follows_any ?_))
        exact AK.lp ⟨k + 1, ⟨by omega, hr⟩, Weak.intro ⟨⟨_, rfl, .refl _⟩, ⟨_, rfl, .refl _⟩, ⟨_, rfl, .refl _⟩, ⟨_, rfl, .of_eq (congrArg _ (by first | omega | (rw [wrap_in (by omega) (by omega)]; omega)))⟩, trivial⟩ ⟨⟨_, rfl, leL_refl _⟩, trivial⟩ rfl rfl, by omega⟩
    · have hlt : k = v.l.length := by have : v.l.length ≤ k := by simpa [rowsV_len] using hb
                                      omega
      subst hlt
      have hl0 : partsL v.l = 0 := by rw [← hr, List.drop_length]; rfl
      clear hr
      refine AK.exit rfl ?_
      (repeat (first | apply kS | apply kB | apply kL | apply kN | refine kA follows_any ?_))
      refine AK.loopI (fun k : Nat => (frOf [(1, .ptr 1 0), (32, .lst .any 7 (rowsM v.m)), (33, .int .i64 (rowsM v.m).length), (34, .int .i64 k)], ⟨boxOf [(1, [.int .i64 (v).kind, .bool (v).b, .int .i64 (v).n, .str (v).s, .lst .any 6 (rowsV (v).l), .lst .any 7 (rowsM (v).m)], false)], fun _ => 0⟩)) (fun k => k ≤ v.m.length ∧ partsM (prevK v.m k) (v.m.drop k) = v.partsC) (fun k => v.m.length - k) 0 ⟨by omega, (partsC_map hk0 ht0 hl0).symm⟩ (Weak.intro ⟨⟨_, rfl, .refl _⟩, ⟨_, rfl, .refl _⟩, ⟨_, rfl, .refl _⟩, ⟨_, rfl, .refl _⟩, trivial⟩ ⟨⟨_, rfl, leL_refl _⟩, trivial⟩ rfl rfl) fun k ⟨hk, hr⟩ => ?_
      (repeat (first | apply kS | apply kB | apply kL | apply kN | refine kA follows_any ?_))
      refine AK.cond (by rfl) (fun hb => ?_) (fun hb => ?_)
      · have hlt : k < v.m.length := by simpa [rowsM_len] using hb
        obtain ⟨⟨y, x⟩, hg⟩ : ∃ x, v.m[k]? = some x := ⟨_, List.getElem?_eq_getElem hlt⟩
        obtain ⟨z, x', hz⟩ : ∃ z x', 0 < k → v.m[k - 1]? = some (z, x') := by
          by_cases h0 : 0 < k
          · exact ⟨(v.m[k - 1]'(by omega)).1, (v.m[k - 1]'(by omega)).2, fun _ => List.getElem?_eq_getElem (by omega)⟩
          · exact ⟨y, x, fun h => absurd h h0⟩
        have hx := sizeM_take hg
        have hx2 := sizeM_take_le v.m (k + 1)
        rw [partsM_drop hg] at hr
        (repeat (first | apply kS | apply kB | apply kL | apply kN | refine kA follows_any ?_))
        refine kR follows_any [.c (.str y :: [.int .i64 (x).kind, .bool (x).b, .int .i64 (x).n, .str (x).s, .lst .any 6 (rowsV (x).l), .lst .any 7 (rowsM (x).m)])] (by rfl) ?_ ?_
        · ((repeat' apply And.intro) <;> first | exact kD | (intro hgd; refine ⟨?_, kG⟩; (repeat' apply And.intro) <;> first | exact kD | skip) | skip)
          · exact rowsM_at hg
        (repeat (first | apply kS | apply kB | apply kL | apply kN | refine kA follows_any ?_))
        refine kR follows_any [.v (.bool (keyB y))] (by rfl) ?_ ?_
        · ((repeat' apply And.intro) <;> first | exact kD | (intro hgd; refine ⟨?_, kG⟩; (repeat' apply And.intro) <;> first | exact kD | skip) | skip)
          · exact treeKey_a _ (sb_m hsb hg).1
        refine AK.cond (by rfl) (fun hb => ?_) (fun hb => ?_)
        · (repeat (first | apply kS | apply kB | apply kL | apply kN | refine kA follows_any ?_))
          refine AK.ret ⟨_, rfl, ?_⟩
          exact congrArg (AV.int _) (by rw [← hr, if_pos (by simpa using hb)])
        rw [if_neg (by simpa using hb)] at hr
        (repeat (first | apply kS | apply kB | apply kL | apply kN | refine kA follows_any ?_))
        refine kR follows_any [.c (.str z :: [.int .i64 (x').kind, .bool (x').b, .int .i64 (x').n, .str (x').s, .lst .any 6 (rowsV (x').l), .lst .any 7 (rowsM (x').m)])] (by rfl) ?_ ?_
        · ((repeat' apply And.intro) <;> first | exact kD | (intro hgd; refine ⟨?_, kG⟩; (repeat' apply And.intro) <;> first | exact kD | skip) | skip)
          · have h0 : 0 < k := by simpa [gd] using hgd
            rw [wrap_in (by omega) (by omega)]; omega
          · have h0 : 0 < k := by simpa [gd] using hgd
            rw [wrap_in (by omega) (by omega), show ((k : Int) - 1).toNat = k - 1 by omega]
            exact rowsM_at (hz h0)
        have hn := noRise_ge (y := y) hz
        refine AK.cond (by rfl) (fun hb => ?_) (fun hb => ?_)
        · (repeat (first | apply kS | apply kB | apply kL | apply kN | refine kA follows_any ?_))
          refine AK.ret ⟨_, rfl, ?_⟩
          exact congrArg (AV.int _) (by rw [← hr, if_pos (hn.trans hb)])
        rw [if_neg (by rw [hn, hb]; decide)] at hr
        (repeat (first | apply kS | apply kB | apply kL | apply kN | refine kA follows_any ?_))
        refine kR follows_any [.v (.int .i64 x.partsC)] (by rfl) ?_ ?_
        · ((repeat' apply And.intro) <;> first | exact kD | (intro hgd; refine ⟨?_, kG⟩; (repeat' apply And.intro) <;> first | exact kD | skip) | skip)
          · exact ih x (by omega) (sb_m hsb hg).2 (by omega)
        (repeat (first | apply kS | apply kB | apply kL | apply kN | refine kA follows_any ?_))
        refine AK.cond (by rfl) (fun hb => ?_) (fun hb => ?_)
        · have he : x.partsC ≠ 0 := by simpa using hb
          rw [if_pos he] at hr
          (repeat (first | apply kS | apply kB | apply kL | apply kN | refine kA follows_any ?_))
          refine AK.ret ⟨_, rfl, ?_⟩
          exact congrArg (AV.int _) hr
        · have he : ¬ x.partsC ≠ 0 := by simpa using hb
          rw [if_neg he] at hr
          (repeat (first | apply kS | apply kB | apply kL | apply kN | refine kA follows_any ?_))
          exact AK.lp ⟨k + 1, ⟨by omega, hr⟩, Weak.intro ⟨⟨_, rfl, .refl _⟩, ⟨_, rfl, .refl _⟩, ⟨_, rfl, .refl _⟩, ⟨_, rfl, .of_eq (congrArg _ (by first | omega | (rw [wrap_in (by omega) (by omega)]; omega)))⟩, trivial⟩ ⟨⟨_, rfl, leL_refl _⟩, trivial⟩ rfl rfl, by omega⟩
      · have hlt : k = v.m.length := by have : v.m.length ≤ k := by simpa [rowsM_len] using hb
                                        omega
        subst hlt
        refine AK.exit rfl ?_
        (repeat (first | apply kS | apply kB | apply kL | apply kN | refine kA follows_any ?_))
        refine AK.ret ⟨_, rfl, ?_⟩
        exact congrArg (AV.int _) (by rw [← hr, List.drop_length]; rfl)
theorem treeCheck_a (v : V) (hsb : v.sb) (hsz : v.size ≤ 2000000000000) : AC Tryz.prog 25 [.agg [.int .i64 (v).kind, .bool (v).b, .int .i64 (v).n, .str (v).s, .lst .any 6 (rowsV (v).l), .lst .any 7 (rowsM (v).m)]] (.int .i64 v.checkC) := by
  refine AC.enter Tryz.func25 a_tree_Check_ok a_tree_Check_cb (by rfl) fun E hE => ?_
  show AK _ _ _ [.c b_tree_Check] _ _
  rw [b_tree_Check]
  (repeat (first | apply kS | apply kB | apply kL | apply kN | refine kA follows_any ?_))
  refine kR follows_any [.v (.int .i64 v.depth)] (by rfl) ?_ ?_
  · ((repeat' apply And.intro) <;> first | exact kD | (intro hgd; refine ⟨?_, kG⟩; (repeat' apply And.intro) <;> first | exact kD | skip) | skip)
    · exact treeDepth_a _ v (Nat.le_refl _) hsz
  refine AK.cond (by rfl) (fun hb => ?_) (fun hb => ?_)
  · have h1 : 16 < v.depth := by have : ((v.depth : Nat) : Int) > 16 := by simpa using hb
                                 omega
    (repeat (first | apply kS | apply kB | apply kL | apply kN | refine kA follows_any ?_))
    refine AK.ret ⟨_, rfl, ?_⟩
    rw [V.checkC, if_pos h1]
    rfl
  have h1 : ¬ 16 < v.depth := by have : ¬ ((v.depth : Nat) : Int) > 16 := by simpa using hb
                                 omega
  (repeat (first | apply kS | apply kB | apply kL | apply kN | refine kA follows_any ?_))
  refine kR follows_any [.v (.int .i64 v.size)] (by rfl) ?_ ?_
  · ((repeat' apply And.intro) <;> first | exact kD | (intro hgd; refine ⟨?_, kG⟩; (repeat' apply And.intro) <;> first | exact kD | skip) | skip)
    · exact treeSize_a _ v (Nat.le_refl _) hsz
  refine AK.cond (by rfl) (fun hb => ?_) (fun hb => ?_)
  · have h2 : 4096 < v.size := by have : ((v.size : Nat) : Int) > 4096 := by simpa using hb
                                  omega
    (repeat (first | apply kS | apply kB | apply kL | apply kN | refine kA follows_any ?_))
    refine AK.ret ⟨_, rfl, ?_⟩
    rw [V.checkC, if_neg h1, if_pos h2]
    rfl
  have h2 : ¬ 4096 < v.size := by have : ¬ ((v.size : Nat) : Int) > 4096 := by simpa using hb
                                  omega
  (repeat (first | apply kS | apply kB | apply kL | apply kN | refine kA follows_any ?_))
  refine kR follows_any [.v (.int .i64 v.partsC)] (by rfl) ?_ ?_
  · ((repeat' apply And.intro) <;> first | exact kD | (intro hgd; refine ⟨?_, kG⟩; (repeat' apply And.intro) <;> first | exact kD | skip) | skip)
    · exact treeParts_a _ v (Nat.le_refl _) hsb hsz
  (repeat (first | apply kS | apply kB | apply kL | apply kN | refine kA follows_any ?_))
  refine AK.ret ⟨_, rfl, ?_⟩
  rw [V.checkC, if_neg h1, if_neg h2]
  rfl
end Go.Proofs.YtgekcnpfflhpkaaGreatDoor
