/-
  YamlWrong, walked: it answers true.
-/
import Derived.Test.YtgekcnpfflhpkaaGreatDoorYn
import Derived.Test.YtgekcnpfflhpkaaGreatDoorYmW
import Derived.Lib.ItoaLen
namespace Go.Proofs.YtgekcnpfflhpkaaGreatDoor
set_option linter.unusedSimpArgs false
set_option linter.unusedVariables false
open Go.RowKit

theorem itB_list (n : Int) : (itB n).data.toList = Lib.itoa n := rfl
theorem itoa_facts (n : Int) : (Lib.itoa n ≠ []) ∧ ∀ c ∈ Lib.itoa n, c = 45 ∨ okD c = true := by
  obtain ⟨f1, _, f3⟩ := decD_facts n.natAbs n.natAbs (Nat.le_refl _)
  unfold Lib.itoa
  split
  · refine ⟨by simp, fun c hc => ?_⟩
    rcases List.mem_cons.1 hc with rfl | hc
    · exact .inl rfl
    · exact .inr (f1 c hc)
  · rename_i hn
    rw [show n.toNat = n.natAbs by omega]
    exact ⟨f3, fun c hc => .inr (f1 c hc)⟩
theorem dig_wB {c : UInt8} (h : c = 45 ∨ okD c = true) : wB c = true ∧ c ≠ 10 ∧ c ≠ 9 := by
  have key : ∀ k : Fin 256, ((UInt8.ofNat k.val == 45 || okD (UInt8.ofNat k.val)) = true → (wB (UInt8.ofNat k.val) && !(UInt8.ofNat k.val == 10) && !(UInt8.ofNat k.val == 9)) = true) := by decide +kernel
  have := key ⟨c.toNat, c.toNat_lt⟩
  simp only [UInt8.ofNat_toNat] at this
  have := this (by rcases h with rfl | h; rfl; rw [h]; simp)
  simpa [and_assoc] using this
/-- what one may say of a text in brackets -/
theorem inline_dig (n : Int) (h1 : -9223372036854775808 ≤ n) (h2 : n ≤ 9223372036854775807) : inlineL (91 :: (Lib.itoa n ++ [93])) = (vList [V.int n], 0) := by
  obtain ⟨hne, hall⟩ := itoa_facts n
  have hw : ∀ c ∈ Lib.itoa n, wB c = true := fun c hc => (dig_wB (hall c hc)).1
  have hsc := scal_dig n h1 h2
  have hD : toB (Lib.itoa n) = itB n := rfl
  generalize Lib.itoa n = D at *
  obtain ⟨d, t, rfl⟩ : ∃ d t, D = d :: t := by cases D with | nil => exact absurd rfl hne | cons d t => exact ⟨d, t, rfl⟩
  have hd := hw d (by simp)
  have hfl : ∀ k, flowF (k + 2) (.flow []) (d :: t ++ [93]) = (vList [V.int n], [], 0) := fun k => by
    rw [flowF, one_word (by simp) hw (end_word (fun c hc => by
      have e1 := wB_ne (hw c hc) (d := 44) (by decide)
      have e2 := wB_ne (hw c hc) (d := 93) (by decide)
      simp [e1, e2]) (fun e he => by cases he; rfl) (.inl (by simp))), hD, hsc]
    rfl
  have hin : flowF (2 * (91 :: (d :: t ++ [93])).length + 1) (.one []) (91 :: (d :: t ++ [93])) = (vList [V.int n], [], 0) := by
    rw [oneK_eq, tl_of (by decide), oneK, if_pos rfl]
    unfold flowI
    rw [List.cons_append, tl_of (wB_ne hd (by decide)), flowJ, if_neg (wB_ne hd (by decide))]
    have := hfl (2 * t.length + 4)
    rw [List.cons_append] at this
    rw [show 2 * (91 :: d :: (t ++ [93])).length = 2 * t.length + 4 + 2 by simp; omega]
    exact this
  unfold inlineL
  rw [hin]
  rfl
theorem parse_dig (n : Int) (h1 : -9223372036854775808 ≤ n) (h2 : n ≤ 9223372036854775807) : parseL (⟨#[91]⟩ ++ itB n ++ ⟨#[93]⟩) = (vList [V.int n], 0) := by
  obtain ⟨hne, hall⟩ := itoa_facts n
  have hs : (⟨#[91]⟩ ++ itB n ++ ⟨#[93]⟩ : ByteArray).data.toList = 91 :: (Lib.itoa n ++ [93]) := by
    simp [itB_list]
  have hlen := Lib.itoa_length_le n h1 h2
  have hz : (⟨#[91]⟩ ++ itB n ++ ⟨#[93]⟩ : ByteArray).size = (Lib.itoa n).length + 2 := by
    show (⟨#[91]⟩ ++ itB n ++ ⟨#[93]⟩ : ByteArray).data.toList.length = _
    rw [hs]
    simp
  unfold parseL
  rw [if_neg (by omega), splT_join (l := [91 :: (Lib.itoa n ++ [93])]) (by simp) (fun x hx => ?_) (by rw [hs]; simp [joinC])]
  · have hb : bareL (91 :: (Lib.itoa n ++ [93])) = 91 :: (Lib.itoa n ++ [93]) := bareL_ok fun c hc => by
      rcases List.mem_cons.1 hc with rfl | hc
      · rfl
      · rcases List.mem_append.1 hc with hc | hc
        · exact wB_okB (dig_wB (hall c hc)).1
        · rw [List.mem_singleton.1 hc]; rfl
    have ho := oneLine_of (k := 0) (c := 91) (t := Lib.itoa n ++ [93]) (d := 93) hb rfl (by decide) (by decide) (List.getLast?_eq_some_iff.2 ⟨91 :: Lib.itoa n, rfl⟩) (by decide)
    have h58 : 58 ∉ (91 :: (Lib.itoa n ++ [93]) : Bs) := fun hm => by
      rcases List.mem_cons.1 hm with h | hm
      · cases h
      · rcases List.mem_append.1 hm with hm | hm
        · exact absurd (dig_wB (hall _ hm)).1 (by decide)
        · cases List.mem_singleton.1 hm
    have hspl : splitL (91 :: (Lib.itoa n ++ [93])) = none := by
      unfold splitL
      rw [if_neg (by simp [quoted, isQ]), noColon h58, if_pos (by decide), no_suff h58, if_neg (by simp)]
    have hpt := parseT_one (i := 0) (show isItem (91 :: (Lib.itoa n ++ [93])) = false from by simp [isItem, List.isPrefixOf]) hspl (inline_dig n h1 h2) (fun h => absurd rfl h)
    rw [show linesL [91 :: (Lib.itoa n ++ [93])] = some [(0, 91 :: (Lib.itoa n ++ [93]))] by rw [linesL, ho, linesL]; rfl]
    show parseT _ = _
    rw [hpt, if_neg (by simp), if_neg (by rw [show (vList [V.int n]).checkC = 0 by kernel_rfl]; simp)]
  · rw [List.mem_singleton.1 hx]
    intro hm
    rcases List.mem_cons.1 hm with h | hm
    · cases h
    · rcases List.mem_append.1 hm with hm | hm
      · exact (dig_wB (hall _ hm)).2.1 rfl
      · cases List.mem_singleton.1 hm
end Go.Proofs.YtgekcnpfflhpkaaGreatDoor
/-
  YamlWrong, walked: it answers true.
-/
namespace Go.Proofs.YtgekcnpfflhpkaaGreatDoor
set_option linter.unusedSimpArgs false
set_option linter.unusedVariables false
open Go.RowKit

def wrongL : List (ByteArray × Int) := [(⟨#[97, 58, 32, 49, 10, 97, 58, 32, 50]⟩, 13), (⟨#[123, 97, 58, 32, 49, 44, 32, 97, 58, 32, 50, 125]⟩, 13), (⟨#[9, 97, 58, 32, 49]⟩, 12), (⟨#[97, 58, 32, 49, 10, 32, 32, 98, 58, 32, 50]⟩, 12), (⟨#[97, 58, 10, 32, 32, 98, 58, 32, 49, 10, 32, 99, 58, 32, 50]⟩, 12), (⟨#[45, 32, 97, 10, 98, 58, 32, 49]⟩, 10), (⟨#[97, 58, 32, 91, 49, 44, 32, 50]⟩, 10), (⟨#[97, 58, 32, 34, 120]⟩, 11), (⟨#[97, 58, 32, 57, 50, 50, 51, 51, 55, 50, 48, 51, 54, 56, 53, 52, 55, 55, 53, 56, 48, 56]⟩, 9), (⟨#[97, 58, 32, 38, 120]⟩, 10), (⟨#[97, 58, 32, 98, 58, 32, 99]⟩, 10), (⟨#[97, 58, 32, 91, 49, 93, 32, 50]⟩, 10), (⟨#[120, 10, 121]⟩, 10), (⟨#[91, 97, 44, 32, 93]⟩, 10), (⟨#[123, 97, 125]⟩, 10)]
theorem wrong_v : ∀ p ∈ wrongL, parseL p.1 = (V.null, p.2) := by
  intro p hp
  simp only [wrongL, List.mem_cons, List.not_mem_nil, or_false] at hp
  rcases hp with rfl | rfl | rfl | rfl | rfl | rfl | rfl | rfl | rfl | rfl | rfl | rfl | rfl | rfl | rfl
  all_goals kernel_rfl
def rowsW (l : List (ByteArray × Int)) : List (List AV) := l.map fun p => [.str p.1, .int .i64 p.2]
theorem empty_v : parseL ⟨#[]⟩ = (V.null, 0) := by kernel_rfl
set_option maxRecDepth 100000 in
theorem yamlWrong_a (n : Int) (h1 : -9223372036854775808 ≤ n) (h2 : n ≤ 9223372036854775807) : AC Tryz.prog 3 [.int .i64 n] (.bool true) := by
  have hA := awake_a
  have hE0 := parse_a ⟨#[]⟩
  rw [empty_v] at hE0
  have hD := digits_a n h1 h2
  have hP := parse_a (⟨#[91]⟩ ++ itB n ++ ⟨#[93]⟩)
  rw [parse_dig n h1 h2] at hP
  have hz : (itB n).size ≤ 21 := Lib.itoa_length_le n h1 h2
  have z1 : (ByteArray.mk #[91]).size = 1 := rfl
  have z2 : (ByteArray.mk #[93]).size = 1 := rfl
  have z3 : (ByteArray.mk #[91] ++ itB n).size = 1 + (itB n).size := by rw [ByteArray.size_append, z1]
  refine AC.enter Tryz.func3 a_law05_YamlWrong_ok a_law05_YamlWrong_cb (by rfl) fun E hE => ?_
  show AK _ _ _ [.c b_law05_YamlWrong] _ _
  rw [b_law05_YamlWrong]
  (repeat (first | apply kS | apply kB | apply kL | apply kN | refine kA follows_any ?_))
  refine AK.loopI (fun k : Nat => (frOf [(0, .int .i64 n), (2, .bool false), (26, .lst .any 2 (rowsW wrongL)), (27, .int .i64 15), (28, .int .i64 k)], ⟨boxOf [], fun _ => 0⟩)) (fun k => k ≤ 15) (fun k => 15 - k) 0 (by omega) (Weak.intro ⟨⟨_, rfl, .refl _⟩, ⟨_, rfl, .refl _⟩, ⟨_, rfl, .one (.any _ _ _)⟩, ⟨_, rfl, .refl _⟩, ⟨_, rfl, .refl _⟩, trivial⟩ trivial rfl rfl) fun k hk => ?_
  (repeat (first | apply kS | apply kB | apply kL | apply kN | refine kA follows_any ?_))
  refine AK.cond (by rfl) (fun hb => ?_) (fun hb => ?_)
  · have hlt : k < 15 := by
      have : (k : Int) < 15 := by simpa using hb
      omega
    obtain ⟨p, hg⟩ : ∃ x, wrongL[k]? = some x := ⟨_, List.getElem?_eq_getElem (show k < wrongL.length from hlt)⟩
    have hp := parse_a p.1
    rw [wrong_v p (List.mem_of_getElem? hg)] at hp
    have hrow : (rowsW wrongL)[k]? = some [.str p.1, .int .i64 p.2] := by rw [rowsW, List.getElem?_map, hg]; rfl
    (repeat (first | apply kS | apply kB | apply kL | apply kN | refine kA follows_any ?_))
    refine kR follows_any [.c [.str p.1, .int .i64 p.2]] (by rfl) ?_ ?_
    · ((repeat' apply And.intro) <;> first | exact kD | (intro hgd; refine ⟨?_, kG⟩; (repeat' apply And.intro) <;> first | exact kD | skip) | skip)
      all_goals first | exact hrow | skip
    (repeat (first | apply kS | apply kB | apply kL | apply kN | refine kA follows_any ?_))
    refine kR follows_any [.v (.tup [.agg [.int .i64 (V.null).kind, .bool (V.null).b, .int .i64 (V.null).n, .str (V.null).s, .lst .any 6 (rowsV (V.null).l), .lst .any 7 (rowsM (V.null).m)], .int .i64 p.2])] (by rfl) ?_ ?_
    · ((repeat' apply And.intro) <;> first | exact kD | (intro hgd; refine ⟨?_, kG⟩; (repeat' apply And.intro) <;> first | exact kD | skip) | skip)
    (repeat (first | apply kS | apply kB | apply kL | apply kN | refine kA follows_any ?_))
    refine kR follows_any [] (by rfl) ?_ ?_
    · ((repeat' apply And.intro) <;> first | exact kD | (intro hgd; refine ⟨?_, kG⟩; (repeat' apply And.intro) <;> first | exact kD | skip) | skip)
    refine AK.cond (by rfl) (fun hb => ?_) (fun hb => ?_)
    · exfalso
      simp [V.null, V.kind] at hb
    · (repeat (first | apply kS | apply kB | apply kL | apply kN | refine kA follows_any ?_))
      exact AK.lp ⟨k + 1, by omega, Weak.intro ⟨⟨_, rfl, .refl _⟩, ⟨_, rfl, .refl _⟩, ⟨_, rfl, .refl _⟩, ⟨_, rfl, .refl _⟩, ⟨_, rfl, .of_eq (congrArg _ (by first | omega | (rw [wrap_in (by omega) (by omega)]; omega)))⟩, trivial⟩ trivial rfl rfl, by omega⟩
  · refine AK.exit rfl ?_
    (repeat (first | apply kS | apply kB | apply kL | apply kN | refine kA follows_any ?_))
    refine kR follows_any [.v (.tup [.agg [.int .i64 (V.null).kind, .bool (V.null).b, .int .i64 (V.null).n, .str (V.null).s, .lst .any 6 (rowsV (V.null).l), .lst .any 7 (rowsM (V.null).m)], .int .i64 0])] (by rfl) ?_ ?_
    · ((repeat' apply And.intro) <;> first | exact kD | (intro hgd; refine ⟨?_, kG⟩; (repeat' apply And.intro) <;> first | exact kD | skip) | skip)
    clear hE0
    have hP2 := And.intro trivial hP
    clear hP
    (repeat (first | apply kS | apply kB | apply kL | apply kN | refine kA follows_any ?_))
    refine kR follows_any [.v (.str (itB n)), .v (.tup [.agg [.int .i64 ((vList [V.int n])).kind, .bool ((vList [V.int n])).b, .int .i64 ((vList [V.int n])).n, .str ((vList [V.int n])).s, .lst .any 6 (rowsV ((vList [V.int n])).l), .lst .any 7 (rowsM ((vList [V.int n])).m)], .int .i64 0])] (by rfl) ?_ ?_
    · (repeat' apply And.intro)
      all_goals first | exact hD | omega | exact hP2.2 | exact trivial
    (repeat (first | apply kS | apply kB | apply kL | apply kN | refine kA follows_any ?_))
    refine kR follows_any [.v (.bool true), .c [.int .i64 2, .bool false, .int .i64 n, .str ⟨#[]⟩, .lst .any 6 [], .lst .any 7 []]] (by rfl) ?_ ?_
    · ((repeat' apply And.intro) <;> first | exact kD | (intro hgd; refine ⟨?_, kG⟩; (repeat' apply And.intro) <;> first | exact kD | skip) | skip)
      all_goals first | exact rfl | skip
    (repeat (first | apply kS | apply kB | apply kL | apply kN | refine kA follows_any ?_))
    refine AK.ret ⟨_, rfl, ?_⟩
    simp [V.null, V.kind, vList, V.l, rowsV]
    rfl
end Go.Proofs.YtgekcnpfflhpkaaGreatDoor
