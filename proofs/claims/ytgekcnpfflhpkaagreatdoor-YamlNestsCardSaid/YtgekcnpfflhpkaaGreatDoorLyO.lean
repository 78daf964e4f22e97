/-
  YamlNests, walked: it answers true.
-/
import Derived.Test.YtgekcnpfflhpkaaGreatDoorLyN
import Derived.Test.YtgekcnpfflhpkaaGreatDoorYmN
namespace Go.Proofs.YtgekcnpfflhpkaaGreatDoor
set_option linter.unusedSimpArgs false
set_option linter.unusedVariables false
open Go.RowKit

theorem nestM (k : Nat) : nestV true (k + 1) = vMap [(⟨#[97]⟩, nestV true k)] := rfl
theorem nestL (k : Nat) : nestV false (k + 1) = vList [nestV false k] := rfl
/-- the walk behind the two words -/
theorem yamlNests_a (n : Nat) (hn : n < 256) (b : Bool) : AC Tryz.prog 5 [.int .u8 n, .bool b] (.bool true) := by
  have hA := awake_a
  obtain ⟨k, hk⟩ : ∃ k, k = n % 40 := ⟨_, rfl⟩
  have hk40 : k < 40 := by omega
  have hO := rep_a ⟨(nestO b).toArray⟩ k (by cases b <;> decide) (by
    have : (⟨(nestO b).toArray⟩ : ByteArray).size ≤ 4 := by cases b <;> decide
    have := Nat.mul_le_mul this (Nat.le_of_lt hk40)
    omega) (by omega)
  have hC := rep_a ⟨(nestC b).toArray⟩ k (by cases b <;> decide) (by
    have : (⟨(nestC b).toArray⟩ : ByteArray).size ≤ 1 := by cases b <;> decide
    have := Nat.mul_le_mul this (Nat.le_of_lt hk40)
    omega) (by omega)
  have hP := parse_a (nestS b k)
  rw [nest_v b k hk40] at hP
  have z1 : (⟨(Lib.repeatL (nestO b) k).toArray⟩ : ByteArray).size ≤ 160 := by
    rw [rep_size]
    have : (nestO b).length ≤ 4 := by cases b <;> decide
    have := Nat.mul_le_mul this (Nat.le_of_lt hk40)
    omega
  have z2 : (⟨(Lib.repeatL (nestC b) k).toArray⟩ : ByteArray).size ≤ 40 := by
    rw [rep_size]
    have : (nestC b).length ≤ 1 := by cases b <;> decide
    have := Nat.mul_le_mul this (Nat.le_of_lt hk40)
    omega
  have z3 : (ByteArray.mk #[49]).size = 1 := rfl
  have z4 : ((⟨(Lib.repeatL (nestO b) k).toArray⟩ : ByteArray) ++ ⟨#[49]⟩).size = (⟨(Lib.repeatL (nestO b) k).toArray⟩ : ByteArray).size + 1 := by rw [ByteArray.size_append, z3]
  have hrem : ((n : Int).tmod 40) = ((k : Nat) : Int) := by rw [hk]; rfl
  have hw1 : IntKind.i64.wrap ((k : Nat) : Int) = (k : Int) := wrap_in (by omega) (by omega)
  have hw2 : IntKind.i64.wrap ((k : Int) + 1) = ((k + 1 : Nat) : Int) := by rw [wrap_in (by omega) (by omega)]; omega
  have hP2 := And.intro trivial hP
  clear hP
  refine AC.enter Tryz.func5 a_law05_YamlNests_ok a_law05_YamlNests_cb (by rfl) fun E hE => ?_
  show AK _ _ _ [.c b_law05_YamlNests] _ _
  rw [b_law05_YamlNests]
  (repeat (first | apply kS | apply kB | apply kL | apply kN | refine kA follows_any ?_))
  refine kR follows_any [] (by rfl) ?_ ?_
  · ((repeat' apply And.intro) <;> first | exact kD | (intro hgd; refine ⟨?_, kG⟩; (repeat' apply And.intro) <;> first | exact kD | skip) | skip)
  rw [hrem, hw1]
  (repeat (first | apply kS | apply kB | apply kL | apply kN | refine kA follows_any ?_))
  refine AK.cond (by rfl) (fun hb => ?_) (fun hb => ?_)
  · (repeat (first | apply kS | apply kB | apply kL | apply kN | refine kA follows_any ?_))
    refine AK.weak (fr' := frOf [(1, .bool b), (5, .int .i64 k), (6, .str ⟨(nestO b).toArray⟩), (7, .str ⟨(nestC b).toArray⟩)]) (st' := ⟨boxOf [], fun _ => 0⟩) (Weak.intro ⟨⟨_, rfl, .refl _⟩, ⟨_, rfl, .refl _⟩, ⟨_, rfl, .of_eq (by rw [hb]; rfl)⟩, ⟨_, rfl, .of_eq (by rw [hb]; rfl)⟩, trivial⟩ trivial rfl rfl) ?_
    refine kR follows_any [.v (.str ⟨(Lib.repeatL (nestO b) k).toArray⟩), .v (.str ⟨(Lib.repeatL (nestC b) k).toArray⟩)] (by rfl) ?_ ?_
    · (repeat' apply And.intro) <;> first | exact hO | exact hC | omega | exact trivial
    (repeat (first | apply kS | apply kB | apply kL | apply kN | refine kA follows_any ?_))
    refine kR follows_any [.v (.tup [.agg [.int .i64 ((if 15 < k then V.null else nestV b k)).kind, .bool ((if 15 < k then V.null else nestV b k)).b, .int .i64 ((if 15 < k then V.null else nestV b k)).n, .str ((if 15 < k then V.null else nestV b k)).s, .lst .any 6 (rowsV ((if 15 < k then V.null else nestV b k)).l), .lst .any 7 (rowsM ((if 15 < k then V.null else nestV b k)).m)], .int .i64 (if 15 < k then 5 else 0)])] (by rfl) ?_ ?_
    · (repeat' apply And.intro) <;> first | exact hP2.2 | exact trivial
    clear hP2 hO hC
    (repeat (first | apply kS | apply kB | apply kL | apply kN | refine kA follows_any ?_))
    rw [hw2]
    refine AK.cond (by rfl) (fun hc => ?_) (fun hc => ?_)
    · have h16 : 15 < k := by
        have : (((k + 1 : Nat) : Int)) > 16 := by simpa using hc
        omega
      (repeat (first | apply kS | apply kB | apply kL | apply kN | refine kA follows_any ?_))
      refine kR follows_any [.v (.bool true)] (by rfl) ?_ ?_
      · ((repeat' apply And.intro) <;> first | exact kD | (intro hgd; refine ⟨?_, kG⟩; (repeat' apply And.intro) <;> first | exact kD | skip) | skip)
      (repeat (first | apply kS | apply kB | apply kL | apply kN | refine kA follows_any ?_))
      refine AK.ret ⟨_, rfl, ?_⟩
      rw [if_pos h16, if_pos h16]
      rfl
    · have h16 : ¬ 15 < k := by
        have : ¬ (((k + 1 : Nat) : Int)) > 16 := by simpa using hc
        omega
      rw [if_neg h16, if_neg h16]
      (repeat (first | apply kS | apply kB | apply kL | apply kN | refine kA follows_any ?_))
      refine AK.loopI (fun i : Nat => (frOf [(1, .bool b), (9, .ptr 9 0), (10, .int .i64 0), (41, .int .i64 k), (42, .int .i64 i)], ⟨boxOf [(9, [.int .i64 ((nestV b (k - i))).kind, .bool ((nestV b (k - i))).b, .int .i64 ((nestV b (k - i))).n, .str ((nestV b (k - i))).s, .lst .any 6 (rowsV ((nestV b (k - i))).l), .lst .any 7 (rowsM ((nestV b (k - i))).m)], false)], fun _ => 0⟩)) (fun i => i ≤ k) (fun i => k - i) 0 (by omega) (Weak.intro ⟨⟨_, rfl, .refl _⟩, ⟨_, rfl, .refl _⟩, ⟨_, rfl, .refl _⟩, ⟨_, rfl, .refl _⟩, ⟨_, rfl, .refl _⟩, trivial⟩ ⟨⟨_, rfl, leL_refl _⟩, trivial⟩ rfl rfl) fun i hi => ?_
      (repeat (first | apply kS | apply kB | apply kL | apply kN | refine kA follows_any ?_))
      refine AK.cond (by rfl) (fun hb => ?_) (fun hb => ?_)
      · have hlt : i < k := by
          have : (i : Int) < (k : Int) := by simpa using hb
          omega
        obtain ⟨d, hd⟩ : ∃ d, k - i = d + 1 := ⟨k - i - 1, by omega⟩
        have hd2 : k - (i + 1) = d := by omega
        rw [hd]
        clear hb hc h16 hA
        cases b with
        | true =>
          rw [nestM]
          (repeat (first | apply kS | apply kB | apply kL | apply kN | refine kA follows_any ?_))
          refine kR follows_any [] (by rfl) ?_ ?_
          · ((repeat' apply And.intro) <;> first | exact kD | (intro hgd; refine ⟨?_, kG⟩; (repeat' apply And.intro) <;> first | exact kD | skip) | skip)
          refine AK.cond (by rfl) (fun hb => ?_) (fun hb => ?_)
          · (repeat (first | apply kS | apply kB | apply kL | apply kN | refine kA follows_any ?_))
            refine kR follows_any [.c [.str ⟨#[97]⟩, .int .i64 (nestV true d).kind, .bool (nestV true d).b, .int .i64 (nestV true d).n, .str (nestV true d).s, .lst .any 6 (rowsV (nestV true d).l), .lst .any 7 (rowsM (nestV true d).m)]] (by rfl) ?_ ?_
            · ((repeat' apply And.intro) <;> first | exact kD | (intro hgd; refine ⟨?_, kG⟩; (repeat' apply And.intro) <;> first | exact kD | skip) | skip)
              all_goals (show some (AV.str ⟨#[97]⟩ :: cellsV (nestV true d)) = _; rw [cellsV_eq])
            (repeat (first | apply kS | apply kB | apply kL | apply kN | refine kA follows_any ?_))
            exact AK.lp ⟨i + 1, by omega, Weak.intro ⟨⟨_, rfl, .refl _⟩, ⟨_, rfl, .refl _⟩, ⟨_, rfl, .refl _⟩, ⟨_, rfl, .refl _⟩, ⟨_, rfl, .of_eq (congrArg _ (by first | omega | (rw [wrap_in (by omega) (by omega)]; omega)))⟩, trivial⟩ ⟨⟨_, rfl, leL_of_eq (by rw [hd2])⟩, trivial⟩ rfl rfl, by omega⟩
          · simp [vMap, V.m, rowsM] at hb
        | false =>
          rw [nestL]
          (repeat (first | apply kS | apply kB | apply kL | apply kN | refine kA follows_any ?_))
          refine kR follows_any [] (by rfl) ?_ ?_
          · ((repeat' apply And.intro) <;> first | exact kD | (intro hgd; refine ⟨?_, kG⟩; (repeat' apply And.intro) <;> first | exact kD | skip) | skip)
          refine AK.cond (by rfl) (fun hb => ?_) (fun hb => ?_)
          · cases hb
          · (repeat (first | apply kS | apply kB | apply kL | apply kN | refine kA follows_any ?_))
            refine kR follows_any [] (by rfl) ?_ ?_
            · ((repeat' apply And.intro) <;> first | exact kD | (intro hgd; refine ⟨?_, kG⟩; (repeat' apply And.intro) <;> first | exact kD | skip) | skip)
            refine AK.cond (by rfl) (fun hb => ?_) (fun hb => ?_)
            · (repeat (first | apply kS | apply kB | apply kL | apply kN | refine kA follows_any ?_))
              refine kR follows_any [.c [.int .i64 (nestV false d).kind, .bool (nestV false d).b, .int .i64 (nestV false d).n, .str (nestV false d).s, .lst .any 6 (rowsV (nestV false d).l), .lst .any 7 (rowsM (nestV false d).m)]] (by rfl) ?_ ?_
              · ((repeat' apply And.intro) <;> first | exact kD | (intro hgd; refine ⟨?_, kG⟩; (repeat' apply And.intro) <;> first | exact kD | skip) | skip)
                all_goals (show some (cellsV (nestV false d)) = _; rw [cellsV_eq])
              (repeat (first | apply kS | apply kB | apply kL | apply kN | refine kA follows_any ?_))
              exact AK.lp ⟨i + 1, by omega, Weak.intro ⟨⟨_, rfl, .refl _⟩, ⟨_, rfl, .refl _⟩, ⟨_, rfl, .refl _⟩, ⟨_, rfl, .refl _⟩, ⟨_, rfl, .of_eq (congrArg _ (by first | omega | (rw [wrap_in (by omega) (by omega)]; omega)))⟩, trivial⟩ ⟨⟨_, rfl, leL_of_eq (by rw [hd2])⟩, trivial⟩ rfl rfl, by omega⟩
            · simp [vList, V.l, rowsV] at hb
      · have hlt : i = k := by
          have : ¬ (i : Int) < (k : Int) := by simpa using hb
          omega
        subst hlt
        rw [Nat.sub_self]
        refine AK.exit rfl ?_
        (repeat (first | apply kS | apply kB | apply kL | apply kN | refine kA follows_any ?_))
        refine kR follows_any [.v (.bool true)] (by rfl) ?_ ?_
        · ((repeat' apply And.intro) <;> first | exact kD | (intro hgd; refine ⟨?_, kG⟩; (repeat' apply And.intro) <;> first | exact kD | skip) | skip)
        (repeat (first | apply kS | apply kB | apply kL | apply kN | refine kA follows_any ?_))
        refine AK.ret ⟨_, rfl, ?_⟩
        rfl
  · (repeat (first | apply kS | apply kB | apply kL | apply kN | refine kA follows_any ?_))
    refine AK.weak (fr' := frOf [(1, .bool b), (5, .int .i64 k), (6, .str ⟨(nestO b).toArray⟩), (7, .str ⟨(nestC b).toArray⟩)]) (st' := ⟨boxOf [], fun _ => 0⟩) (Weak.intro ⟨⟨_, rfl, .refl _⟩, ⟨_, rfl, .refl _⟩, ⟨_, rfl, .of_eq (by rw [hb]; rfl)⟩, ⟨_, rfl, .of_eq (by rw [hb]; rfl)⟩, trivial⟩ trivial rfl rfl) ?_
    refine kR follows_any [.v (.str ⟨(Lib.repeatL (nestO b) k).toArray⟩), .v (.str ⟨(Lib.repeatL (nestC b) k).toArray⟩)] (by rfl) ?_ ?_
    · (repeat' apply And.intro) <;> first | exact hO | exact hC | omega | exact trivial
    (repeat (first | apply kS | apply kB | apply kL | apply kN | refine kA follows_any ?_))
    refine kR follows_any [.v (.tup [.agg [.int .i64 ((if 15 < k then V.null else nestV b k)).kind, .bool ((if 15 < k then V.null else nestV b k)).b, .int .i64 ((if 15 < k then V.null else nestV b k)).n, .str ((if 15 < k then V.null else nestV b k)).s, .lst .any 6 (rowsV ((if 15 < k then V.null else nestV b k)).l), .lst .any 7 (rowsM ((if 15 < k then V.null else nestV b k)).m)], .int .i64 (if 15 < k then 5 else 0)])] (by rfl) ?_ ?_
    · (repeat' apply And.intro) <;> first | exact hP2.2 | exact trivial
    clear hP2 hO hC
    (repeat (first | apply kS | apply kB | apply kL | apply kN | refine kA follows_any ?_))
    rw [hw2]
    refine AK.cond (by rfl) (fun hc => ?_) (fun hc => ?_)
    · have h16 : 15 < k := by
        have : (((k + 1 : Nat) : Int)) > 16 := by simpa using hc
        omega
      (repeat (first | apply kS | apply kB | apply kL | apply kN | refine kA follows_any ?_))
      refine kR follows_any [.v (.bool true)] (by rfl) ?_ ?_
      · ((repeat' apply And.intro) <;> first | exact kD | (intro hgd; refine ⟨?_, kG⟩; (repeat' apply And.intro) <;> first | exact kD | skip) | skip)
      (repeat (first | apply kS | apply kB | apply kL | apply kN | refine kA follows_any ?_))
      refine AK.ret ⟨_, rfl, ?_⟩
      rw [if_pos h16, if_pos h16]
      rfl
    · have h16 : ¬ 15 < k := by
        have : ¬ (((k + 1 : Nat) : Int)) > 16 := by simpa using hc
        omega
      rw [if_neg h16, if_neg h16]
      (repeat (first | apply kS | apply kB | apply kL | apply kN | refine kA follows_any ?_))
      refine AK.loopI (fun i : Nat => (frOf [(1, .bool b), (9, .ptr 9 0), (10, .int .i64 0), (41, .int .i64 k), (42, .int .i64 i)], ⟨boxOf [(9, [.int .i64 ((nestV b (k - i))).kind, .bool ((nestV b (k - i))).b, .int .i64 ((nestV b (k - i))).n, .str ((nestV b (k - i))).s, .lst .any 6 (rowsV ((nestV b (k - i))).l), .lst .any 7 (rowsM ((nestV b (k - i))).m)], false)], fun _ => 0⟩)) (fun i => i ≤ k) (fun i => k - i) 0 (by omega) (Weak.intro ⟨⟨_, rfl, .refl _⟩, ⟨_, rfl, .refl _⟩, ⟨_, rfl, .refl _⟩, ⟨_, rfl, .refl _⟩, ⟨_, rfl, .refl _⟩, trivial⟩ ⟨⟨_, rfl, leL_refl _⟩, trivial⟩ rfl rfl) fun i hi => ?_
      (repeat (first | apply kS | apply kB | apply kL | apply kN | refine kA follows_any ?_))
      refine AK.cond (by rfl) (fun hb => ?_) (fun hb => ?_)
      · have hlt : i < k := by
          have : (i : Int) < (k : Int) := by simpa using hb
          omega
        obtain ⟨d, hd⟩ : ∃ d, k - i = d + 1 := ⟨k - i - 1, by omega⟩
        have hd2 : k - (i + 1) = d := by omega
        rw [hd]
        clear hb hc h16 hA
        cases b with
        | true =>
          rw [nestM]
          (repeat (first | apply kS | apply kB | apply kL | apply kN | refine kA follows_any ?_))
          refine kR follows_any [] (by rfl) ?_ ?_
          · ((repeat' apply And.intro) <;> first | exact kD | (intro hgd; refine ⟨?_, kG⟩; (repeat' apply And.intro) <;> first | exact kD | skip) | skip)
          refine AK.cond (by rfl) (fun hb => ?_) (fun hb => ?_)
          · (repeat (first | apply kS | apply kB | apply kL | apply kN | refine kA follows_any ?_))
            refine kR follows_any [.c [.str ⟨#[97]⟩, .int .i64 (nestV true d).kind, .bool (nestV true d).b, .int .i64 (nestV true d).n, .str (nestV true d).s, .lst .any 6 (rowsV (nestV true d).l), .lst .any 7 (rowsM (nestV true d).m)]] (by rfl) ?_ ?_
            · ((repeat' apply And.intro) <;> first | exact kD | (intro hgd; refine ⟨?_, kG⟩; (repeat' apply And.intro) <;> first | exact kD | skip) | skip)
              all_goals (show some (AV.str ⟨#[97]⟩ :: cellsV (nestV true d)) = _; rw [cellsV_eq])
            (repeat (first | apply kS | apply kB | apply kL | apply kN | refine kA follows_any ?_))
            exact AK.lp ⟨i + 1, by omega, Weak.intro ⟨⟨_, rfl, .refl _⟩, ⟨_, rfl, .refl _⟩, ⟨_, rfl, .refl _⟩, ⟨_, rfl, .refl _⟩, ⟨_, rfl, .of_eq (congrArg _ (by first | omega | (rw [wrap_in (by omega) (by omega)]; omega)))⟩, trivial⟩ ⟨⟨_, rfl, leL_of_eq (by rw [hd2])⟩, trivial⟩ rfl rfl, by omega⟩
          · simp [vMap, V.m, rowsM] at hb
        | false =>
          rw [nestL]
          (repeat (first | apply kS | apply kB | apply kL | apply kN | refine kA follows_any ?_))
          refine kR follows_any [] (by rfl) ?_ ?_
          · ((repeat' apply And.intro) <;> first | exact kD | (intro hgd; refine ⟨?_, kG⟩; (repeat' apply And.intro) <;> first | exact kD | skip) | skip)
          refine AK.cond (by rfl) (fun hb => ?_) (fun hb => ?_)
          · cases hb
          · (repeat (first | apply kS | apply kB | apply kL | apply kN | refine kA follows_any ?_))
            refine kR follows_any [] (by rfl) ?_ ?_
            · ((repeat' apply And.intro) <;> first | exact kD | (intro hgd; refine ⟨?_, kG⟩; (repeat' apply And.intro) <;> first | exact kD | skip) | skip)
            refine AK.cond (by rfl) (fun hb => ?_) (fun hb => ?_)
            · (repeat (first | apply kS | apply kB | apply kL | apply kN | refine kA follows_any ?_))
              refine kR follows_any [.c [.int .i64 (nestV false d).kind, .bool (nestV false d).b, .int .i64 (nestV false d).n, .str (nestV false d).s, .lst .any 6 (rowsV (nestV false d).l), .lst .any 7 (rowsM (nestV false d).m)]] (by rfl) ?_ ?_
              · ((repeat' apply And.intro) <;> first | exact kD | (intro hgd; refine ⟨?_, kG⟩; (repeat' apply And.intro) <;> first | exact kD | skip) | skip)
                all_goals (show some (cellsV (nestV false d)) = _; rw [cellsV_eq])
              (repeat (first | apply kS | apply kB | apply kL | apply kN | refine kA follows_any ?_))
              exact AK.lp ⟨i + 1, by omega, Weak.intro ⟨⟨_, rfl, .refl _⟩, ⟨_, rfl, .refl _⟩, ⟨_, rfl, .refl _⟩, ⟨_, rfl, .refl _⟩, ⟨_, rfl, .of_eq (congrArg _ (by first | omega | (rw [wrap_in (by omega) (by omega)]; omega)))⟩, trivial⟩ ⟨⟨_, rfl, leL_of_eq (by rw [hd2])⟩, trivial⟩ rfl rfl, by omega⟩
            · simp [vList, V.l, rowsV] at hb
      · have hlt : i = k := by
          have : ¬ (i : Int) < (k : Int) := by simpa using hb
          omega
        subst hlt
        rw [Nat.sub_self]
        refine AK.exit rfl ?_
        (repeat (first | apply kS | apply kB | apply kL | apply kN | refine kA follows_any ?_))
        refine kR follows_any [.v (.bool true)] (by rfl) ?_ ?_
        · ((repeat' apply And.intro) <;> first | exact kD | (intro hgd; refine ⟨?_, kG⟩; (repeat' apply And.intro) <;> first | exact kD | skip) | skip)
        (repeat (first | apply kS | apply kB | apply kL | apply kN | refine kA follows_any ?_))
        refine AK.ret ⟨_, rfl, ?_⟩
        rfl
end Go.Proofs.YtgekcnpfflhpkaaGreatDoor
