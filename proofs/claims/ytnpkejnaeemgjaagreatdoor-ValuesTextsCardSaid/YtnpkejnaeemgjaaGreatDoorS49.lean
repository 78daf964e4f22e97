/-
  The texts that the claim wants, one behind the other: part 49.
-/
import Derived.Test.YtnpkejnaeemgjaaGreatDoorS48
set_option linter.unusedSimpArgs false
set_option linter.unusedVariables false
namespace Go.Proofs.YtnpkejnaeemgjaaGreatDoor
open Go.RowKit
theorem someCha (neg : Bool) (g o : Nat) : NilRun Tryz.prog neg 31 (.pointer (some ⟨g, o, none⟩)) (.pointer none) false := by
 intro w x y hk
 have hg : (eqGuard (eqOp neg) 31 x y (.pointer (some ⟨g, o, none⟩)) (.pointer none)).run Tryz.prog w = .ok () w := by
  cases x <;> cases y <;> first | (cases hk; done) | (cases neg <;> simp [go_sem, eqGuard, eqOp])
 cases neg
 ·exact ⟨hg, by simp [go_sem, eqOp]⟩
 ·exact ⟨hg, by simp [go_sem, eqOp]⟩
theorem overV_a (a b : V) (ha : a.ord) (hb : b.ord) (hz : a.size + 2 * b.size ≤ 4000000) (hbz : b.size ≤ 1000000) : AC Tryz.prog 46 [(vA (a)), (vA (b))] ((vA ((overV a b)))) := over_a drop_ok b.size a b (Nat.le_refl _) ha hb hz hbz
theorem vMap0_ord : (vMap []).ord := vMap_ord List.Pairwise.nil fun p hp => by cases hp
theorem vMap0_tx : (vMap []).tx := vMap_tx fun p hp => by cases hp
theorem layAll_a (v : V) (hv : v.ord) (hz : v.size ≤ 1000000) : AC Tryz.prog 44 [.lst .any 6 [(vC (v))]] ((vA ((overV (vMap []) v)))) := by
 have hM : AC Tryz.prog 22 [.lst .any 7 []] ((vA ((vMap [])))) := treeMap_a [] (by decide +kernel)
 have hO := overV_a (vMap []) v vMap0_ord hv (by rw [vMap_size]; show 1 + 0 + _ ≤ _; omega) hz
 refine kE Tryz.func44 a_layer_All_ok a_layer_All_cb fun E hE => ?_
 refine kW ?_
 refine kQ [.v ((vA ((vMap []))))] ?_
 refine kW ?_
 refine AK.loopI (fun b : Bool => (frOf [(2, .ptr 2 0), (3, .ptr 3 0), (7, .lst .any 6 [(vC (v))]), (8, .int .i64 1), (9, .int .i64 (match b with | true => 1 | false => 0))], ⟨boxOf [(2, [.int .i64 0, .bool false, .int .i64 0, .str ⟨#[]⟩, .lst .nil 6 [], .lst .nil 7 []], false), (3, (match b with | true => (vC ((overV (vMap []) v))) | false => (vC ((vMap [])))), false)], fun _ => 0⟩)) (fun _ => True) (fun b => match b with | true => 0 | false => 1) false trivial (Weak.intro ⟨kI, kI, kI, kI, kI, trivial⟩ ⟨kJ, kJ, trivial⟩ rfl rfl) fun b _ => ?_
 cases b with
 | false =>
  refine kW ?_
  refine kCt ?_
  refine kW ?_
  refine kP [.c ((vC (v)))] ?_ ?_
  ·((repeat' apply And.intro) <;> first | exact kD | (intro hgd; refine ⟨?_, kG⟩; (repeat' apply And.intro) <;> first | exact kD | skip) | skip)
   all_goals rfl
  refine kW ?_
  refine kQ [.v ((vA ((overV (vMap []) v))))] ?_
  refine kW ?_
  exact AK.lp ⟨true, trivial, Weak.intro ⟨kI, kI, kI, kI, kI, trivial⟩ ⟨kJ, kJ, trivial⟩ rfl rfl, by decide⟩
 | true =>
  refine kW ?_
  refine kCf ?_
  refine AK.exit rfl ?_
  refine kW ?_
  refine AK.ret ⟨_, rfl, ?_⟩
  rfl
theorem set_facts {v : V} {s : ByteArray} (ho : v.ord) (ht : v.tx) (hs : s.size ≤ 1000000) (h : (setP v s).2 = 0) : (setP v s).1.ord ∧ (setP v s).1.tx ∧ (setP v s).1.size ≤ 100000 := by
 obtain ⟨hz1, hz2⟩ := cutB_size s 61
 have hL := word_leaf (cutB s 61).2.1 (by omega)
 obtain ⟨hp1, hp2, hp3⟩ := pathP_facts (cutB s 61).1
 have hp4 : ∀ x ∈ (pathP (cutB s 61).1).1, x.size ≤ 140737488355328 := fun x hx => by have := hp2 x hx; omega
 unfold setP at h ⊢
 generalize (cutB s 61).1 = key at *
 generalize (cutB s 61).2.1 = word at *
 generalize (cutB s 61).2.2 = ok at *
 generalize pathP key = pe at *
 generalize wordP word = xe at *
 obtain ⟨l, e⟩ := pe
 obtain ⟨x, e2⟩ := xe
 dsimp only at *
 obtain ⟨hxo, hxt, hxs, hxk⟩ := hL
 have hns := nest_size x l
 have hno := nest_ord hxo l
 have hnt := nest_tx hxt l hp4
 have hov := over_facts 100 v (nest x l) (by omega) ho hno
 have hot := over_tx 100 v (nest x l) (by omega) ho hno ht hnt
 split at h
 ·cases h
 rename_i h1
 split at h
 ·rename_i h2; exact absurd h h2
 rename_i h2
 split at h
 ·rename_i h3; exact absurd h h3
 rename_i h3
 split at h
 ·rename_i h4; exact absurd h h4
 rename_i h4
 rw [if_neg h1, if_neg h2, if_neg h3, if_neg h4]
 have h5 : (overN 100 v (nest x l)).checkC = 0 := by omega
 have := (V.check_good h5).2.1
 exact ⟨hov.1, hot, by dsimp only; omega⟩
set_option maxHeartbeats 4000000 in
theorem of_m (nm ver : ByteArray) (own : V) (texts sets : List ByteArray) (ho : own.ord) (ht : own.tx) (hz : own.size ≤ 4096) (hs : ∀ s ∈ sets, s.size ≤ 1000000) (hlt : texts.length ≤ 1000000) (hls : sets.length ≤ 1000000) :
  MS Tryz.prog 16 (chS 2000000 nm ver own) [.np 2000000 0, .lst .any 1 (rowsT texts), .lst .any 1 (rowsT sets)] (chS 2000000 nm ver own) (.tup [(vA ((ofP own texts sets).1)), .int .i64 (ofP own texts sets).2]) := by
 generalize hR : ofP own texts sets = R
 unfold ofP at hR
 have hA := layAll_a own ho (by omega)
 obtain ⟨k1, k2, k3⟩ := overV_facts vMap0_ord ho vMap0_tx ht
 have k3 : (overV (vMap []) own).size ≤ 100000 := by rw [vMap_size] at k3; have : sizeM ([] : List (ByteArray × V)) = 0 := rfl; omega
 generalize overV (vMap []) own = v0 at *
 refine MS.enter Tryz.func16 a_values_Of_ok a_values_Of_cb (by rfl) (by rfl) fun E hE => ?_
 show AK _ _ _ [.c b_values_Of] _ _
 rw [b_values_Of]
 refine kW ?_
 refine kP [] ?_ ?_
 ·((repeat' apply And.intro) <;> first | exact kD | (intro hgd; refine ⟨?_, kG⟩; (repeat' apply And.intro) <;> first | exact kD | skip) | skip)
  ·exact fun g o => someCha false g o
 refine kCf ?_
 refine kW ?_
 refine kQ [.v ((vA (v0)))] ?_
 refine kW ?_
 refine AK.loopI (fun i : Nat × V => (frOf [(2, .lst .any 1 (rowsT sets)), (6, .ptr 6 0), (8, .ptr 8 0), (25, .lst .any 1 (rowsT texts)), (26, .int .i64 (rowsT texts).length), (27, .int .i64 i.1)], ⟨boxOf [(6, [.int .i64 0, .bool false, .int .i64 0, .str ⟨#[]⟩, .lst .nil 6 [], .lst .nil 7 []], false), (8, (vC (i.2)), false), (2000000, chC nm ver own, false)], fun _ => 0⟩)) (fun i => i.1 ≤ texts.length ∧ ofTexts v0 texts = ofTexts i.2 (texts.drop i.1) ∧ i.2.ord ∧ i.2.tx ∧ i.2.size ≤ 100000) (fun i => texts.length - i.1) (0, v0) ⟨Nat.zero_le _, rfl, k1, k2, k3⟩ (Weak.introN ⟨kI, kI, kI, kI, kI, kI, trivial⟩ ⟨kJ, kJ, kJ, trivial⟩ rfl rfl ⟨rfl, trivial⟩) fun ⟨k, v⟩ hI => ?_
 dsimp only at hI
 obtain ⟨hk, hT, ho1, ht1, hz1⟩ := hI
 dsimp only
 refine kW ?_
 refine kC (fun hb => ?_) fun hb => ?_
 ·have hlt2 : k < texts.length := by simpa [rowsT_len] using hb
  obtain ⟨s, hg⟩ : ∃ x, texts[k]? = some x := ⟨_, List.getElem?_eq_getElem hlt2⟩
  rw [← drop_atT hg, ofTexts] at hT
  have hp := parse_a s
  obtain ⟨pg, pz⟩ := parse_good s
  generalize parseL s = P at *
  obtain ⟨x, e⟩ := P
  dsimp only at hT hp pg pz
  have hO := overV_a v x ho1 pg.ord (by omega) (by omega)
  obtain ⟨f1, f2, f3⟩ := overV_facts ho1 pg.ord ht1 (good_tx pg (by omega))
  have hC := treeCheck_a (overV v x) (f2.sb (by omega)) (by omega)
  have hgd : (overV v x).checkC = 0 → (overV v x).size ≤ 4096 := fun h => (V.check_good h).2.1
  clear hb
  generalize overV v x = u at *
  refine kW ?_
  refine kP [.c [.str s]] ?_ ?_
  ·((repeat' apply And.intro) <;> first | exact kD | (intro hgd; refine ⟨?_, kG⟩; (repeat' apply And.intro) <;> first | exact kD | skip) | skip)
   all_goals exact rowsT_at hg
  refine kW ?_
  refine kQ [.v (.tup [(vA (x)), .int .i64 e])] ?_
  refine kW ?_
  refine kC (fun hb => ?_) fun hb => ?_
  ·have h1 : e ≠ 0 := by simpa using hb
   rw [if_pos h1] at hT
   rw [hT, if_pos (by exact h1)] at hR
   subst hR
   refine kW ?_
   exact AK.ret ⟨⟨_, rfl, rfl⟩, ⟨_, rfl, rfl⟩, trivial⟩
  have h1 : ¬ e ≠ 0 := by simpa using hb
  rw [if_neg h1] at hT
  clear hb
  refine kW ?_
  refine kC (fun hb => ?_) fun hb => ?_
  ·have h2 : x.kind = 0 := by simpa using hb
   rw [if_pos h2] at hT
   clear hb
   refine AK.exit rfl ?_
   refine kW ?_
   exact AK.lp ⟨(k + 1, v), ⟨by dsimp only; omega, hT, ho1, ht1, hz1⟩, Weak.introN ⟨kI, kI, kI, kI, kI, kU, trivial⟩ ⟨kJ, kJ, kJ, trivial⟩ rfl rfl ⟨rfl, trivial⟩, by dsimp only; omega⟩
  have h2 : ¬ x.kind = 0 := by simpa using hb
  rw [if_neg h2] at hT
  clear hb
  refine kW ?_
  refine kC (fun hb => ?_) fun hb => ?_
  ·have h3 : x.kind ≠ 5 := by simpa using hb
   rw [if_pos h3] at hT
   rw [hT, if_pos (by dsimp only; decide)] at hR
   subst hR
   refine kW ?_
   exact AK.ret ⟨⟨_, rfl, rfl⟩, ⟨_, rfl, rfl⟩, trivial⟩
  have h3 : ¬ x.kind ≠ 5 := by simpa using hb
  rw [if_neg h3] at hT
  clear hb
  refine kW ?_
  refine kQ [.v ((vA (u)))] ?_
  refine kW ?_
  refine kQ [.v (.int .i64 u.checkC)] ?_
  refine kC (fun hb => ?_) fun hb => ?_
  ·have h4 : u.checkC ≠ 0 := by simpa using hb
   rw [if_pos h4] at hT
   rw [hT, if_pos (by exact h4)] at hR
   subst hR
   refine kW ?_
   refine kQ [.v (.int .i64 u.checkC)] ?_
   refine kW ?_
   exact AK.ret ⟨⟨_, rfl, rfl⟩, ⟨_, rfl, rfl⟩, trivial⟩
  have h4 : ¬ u.checkC ≠ 0 := by simpa using hb
  rw [if_neg h4] at hT
  have h5 := hgd (by omega)
  clear hb
  refine kW ?_
  exact AK.lp ⟨(k + 1, u), ⟨by dsimp only; omega, hT, f1, f2, by dsimp only; omega⟩, Weak.introN ⟨kI, kI, kI, kI, kI, kU, trivial⟩ ⟨kJ, kJ, kJ, trivial⟩ rfl rfl ⟨rfl, trivial⟩, by dsimp only; omega⟩
 have hlt2 : k = texts.length := by
  have : texts.length ≤ k := by simpa [rowsT_len] using hb
  omega
 clear hb
 subst hlt2
 rw [List.drop_length, ofTexts] at hT
 rw [hT, if_neg (by simp)] at hR
 dsimp only at hR
 clear hT hA hk k1 k2 k3
 refine AK.exit rfl ?_
 refine kW ?_
 refine AK.loopI (fun i : Nat × V => (frOf [(6, .ptr 6 0), (8, .ptr 8 0), (60, .lst .any 1 (rowsT sets)), (61, .int .i64 (rowsT sets).length), (62, .int .i64 i.1)], ⟨boxOf [(6, [.int .i64 0, .bool false, .int .i64 0, .str ⟨#[]⟩, .lst .nil 6 [], .lst .nil 7 []], false), (8, (vC (i.2)), false), (2000000, chC nm ver own, false)], fun _ => 0⟩)) (fun i => i.1 ≤ sets.length ∧ ofSets v sets = ofSets i.2 (sets.drop i.1) ∧ i.2.ord ∧ i.2.tx ∧ i.2.size ≤ 100000) (fun i => sets.length - i.1) (0, v) ⟨Nat.zero_le _, rfl, ho1, ht1, hz1⟩ (Weak.introN ⟨kI, kI, kI, kI, kI, trivial⟩ ⟨kJ, kJ, kJ, trivial⟩ rfl rfl ⟨rfl, trivial⟩) fun ⟨k, v'⟩ hI => ?_
 dsimp only at hI
 obtain ⟨hk, hT, ho2, ht2, hz2⟩ := hI
 dsimp only
 refine kW ?_
 refine kC (fun hb => ?_) fun hb => ?_
 ·have hlt2 : k < sets.length := by simpa [rowsT_len] using hb
  obtain ⟨s, hg⟩ : ∃ x, sets[k]? = some x := ⟨_, List.getElem?_eq_getElem hlt2⟩
  rw [← drop_atT hg, ofSets] at hT
  have hS := set_a drop_ok v' s ho2 ht2 (by omega) (hs s (List.mem_of_getElem? hg))
  have hsf := set_facts ho2 ht2 (hs s (List.mem_of_getElem? hg))
  generalize setP v' s = P at *
  obtain ⟨x, e⟩ := P
  dsimp only at hT hS hsf
  clear hb
  refine kW ?_
  refine kP [.c [.str s]] ?_ ?_
  ·((repeat' apply And.intro) <;> first | exact kD | (intro hgd; refine ⟨?_, kG⟩; (repeat' apply And.intro) <;> first | exact kD | skip) | skip)
   all_goals exact rowsT_at hg
  refine kW ?_
  refine kQ [.v (.tup [(vA (x)), .int .i64 e])] ?_
  refine kW ?_
  refine kC (fun hb => ?_) fun hb => ?_
  ·have h1 : e ≠ 0 := by simpa using hb
   rw [if_pos h1] at hT
   rw [hT] at hR
   subst hR
   refine kW ?_
   exact AK.ret ⟨⟨_, rfl, rfl⟩, ⟨_, rfl, rfl⟩, trivial⟩
  have h1 : ¬ e ≠ 0 := by simpa using hb
  rw [if_neg h1] at hT
  obtain ⟨f1, f2, f3⟩ := hsf (by omega)
  clear hb
  refine kW ?_
  exact AK.lp ⟨(k + 1, x), ⟨by dsimp only; omega, hT, f1, f2, by dsimp only; omega⟩, Weak.introN ⟨kI, kI, kI, kI, kU, trivial⟩ ⟨kJ, kJ, kJ, trivial⟩ rfl rfl ⟨rfl, trivial⟩, by dsimp only; omega⟩
 have hlt2 : k = sets.length := by
  have : sets.length ≤ k := by simpa [rowsT_len] using hb
  omega
 clear hb
 subst hlt2
 rw [List.drop_length, ofSets] at hT
 rw [hT] at hR
 subst hR
 refine AK.exit rfl ?_
 refine kW ?_
 exact AK.ret ⟨⟨_, rfl, rfl⟩, ⟨_, rfl, rfl⟩, trivial⟩
theorem wL_at {l : List V} {x : V} (h : x ∈ l) : x.w ≤ wL l := by
 induction l with
 | nil => cases h
 | cons y l ih =>
  rw [wL]
  rcases List.mem_cons.1 h with rfl | h
  ·omega
  ·have := ih h; omega
theorem wM_at {m : List (ByteArray × V)} {p : ByteArray × V} (h : p ∈ m) : p.2.w ≤ wM m := by
 induction m with
 | nil => cases h
 | cons q m ih =>
  obtain ⟨y, x⟩ := q
  rw [wM]
  rcases List.mem_cons.1 h with rfl | h
  ·simp only; omega
  ·have := ih h; omega
set_option maxHeartbeats 1000000 in
theorem lay_step {N : Nat} (hN : LayOk N) : LayOk (N + 1) := fun v k hs hG hw hk => by
 have hsz := v.size_eq
 have hwe := V.w_eq v
 have hbd := lay_bound v.size v k (Nat.le_refl _) hG.2 hk
 rw [V.lay_eq, ByteArray.size_append] at hbd
 rw [V.lay_eq]
 have hbl := blanks_a k (by omega)
 have hpz := padB_size k
 have hll := len_le_sizeL v.l
 have hml := len_le_sizeM v.m
 refine kE Tryz.func20 a_ref05_lay_ok a_ref05_lay_cb fun E hE => ?_
 refine kW ?_
 refine AK.loopI (fun i : Nat => (frOf [(1, .int .i64 k), (2, .ptr 2 0), (5, .str (layL wordB prB (v.l.take i) k)), (6, .int .i64 i)], ⟨boxOf [(2, (vC (v)), false)], fun _ => 0⟩)) (fun i => i ≤ v.l.length) (fun i => v.l.length - i) 0 (by omega) (Weak.intro ⟨kI, kI, ⟨_, rfl, .of_eq (congrArg AV.str (by rw [List.take_zero, layL]))⟩, kI, trivial⟩ ⟨kJ, trivial⟩ rfl rfl) fun i hi => ?_
 refine kW ?_
 rw [rowsV_len]
 refine kC (fun hb => ?_) fun hb => ?_
 ·have hlt : i < v.l.length := by
   have : (i : Int) < (v.l.length : Int) := by simpa using hb
   omega
  obtain ⟨x, hg⟩ : ∃ x, v.l[i]? = some x := ⟨_, List.getElem?_eq_getElem hlt⟩
  have hx := List.mem_of_getElem? hg
  have hxs := mem_sizeL hx
  have hxw := wL_at hx
  have hta := tail_ra hN x k (by omega) (hG.parts x hx) (by omega) (by omega)
  have htk := layL_take (w := wordB) (pr := prB) hg k
  have hle := layL_le (w := wordB) (pr := prB) v.l (i + 1) k
  have hrow := rowsV_at hg
  have hlen : i < (rowsV v.l).length := by rw [rowsV_len]; exact hlt
  have z1 : (⟨#[45]⟩ : ByteArray).size = 1 := rfl
  have ztk := congrArg ByteArray.size htk
  rw [ByteArray.size_append, ByteArray.size_append, ByteArray.size_append] at ztk
  have y1 : (layL wordB prB (v.l.take i) k ++ padB k).size = (layL wordB prB (v.l.take i) k).size + (padB k).size := ByteArray.size_append ..
  have y2 : (layL wordB prB (v.l.take i) k ++ padB k ++ ⟨#[45]⟩).size = (layL wordB prB (v.l.take i) k).size + (padB k).size + 1 := by rw [ByteArray.size_append, ByteArray.size_append]; rfl
  clear hb
  refine kW ?_
  refine kP [.v (.str (padB k)), .c (vC (x)), .v (.str (x.tail wordB prB k))] ?_ ?_
  ·((repeat' apply And.intro) <;> first | exact kD | (intro hgd; refine ⟨?_, kG⟩; (repeat' apply And.intro) <;> first | exact kD | skip) | skip)
   all_goals first | exact hrow | exact hta | skip
  refine kW ?_
  exact AK.lp ⟨i + 1, by omega, Weak.intro ⟨kI, kI, ⟨_, rfl, .of_eq (congrArg AV.str (by rw [htk]; simp only [ByteArray.append_assoc]))⟩, kU, trivial⟩ ⟨kJ, trivial⟩ rfl rfl, by omega⟩
 ·have hlt : i = v.l.length := by
   have : ¬ (i : Int) < (v.l.length : Int) := by simpa using hb
   omega
  subst hlt
  rw [List.take_length]
  clear hb hi
  refine AK.exit rfl ?_
  refine kW ?_
  refine AK.loopI (fun i : Nat => (frOf [(1, .int .i64 k), (2, .ptr 2 0), (5, .str (layL wordB prB v.l k ++ layM wordB prB (v.m.take i) k)), (7, .int .i64 i)], ⟨boxOf [(2, (vC (v)), false)], fun _ => 0⟩)) (fun i => i ≤ v.m.length) (fun i => v.m.length - i) 0 (by omega) (Weak.intro ⟨kI, kI, ⟨_, rfl, .of_eq (congrArg AV.str (by rw [List.take_zero, layM]; exact ByteArray.append_empty.symm))⟩, kI, trivial⟩ ⟨kJ, trivial⟩ rfl rfl) fun i hi => ?_
  refine kW ?_
  rw [rowsM_len]
  refine kC (fun hb => ?_) fun hb => ?_
  ·have hlt : i < v.m.length := by
    have : (i : Int) < (v.m.length : Int) := by simpa using hb
    omega
   obtain ⟨p, hg⟩ : ∃ x, v.m[i]? = some x := ⟨_, List.getElem?_eq_getElem hlt⟩
   obtain ⟨y, x⟩ := p
   have hx := List.mem_of_getElem? hg
   have hxs := mem_sizeM hx
   have hxw := wM_at hx
   obtain ⟨hGx, hyz⟩ := hG.keys (y, x) hx
   simp only at hxs hxw hGx hyz
   have hke := key_a y (by omega)
   have hwz := wordB_size y
   have hta := tail_ra hN x k (by omega) hGx (by omega) (by omega)
   have htk := layM_take (w := wordB) (pr := prB) hg k
   have hle := layM_le (w := wordB) (pr := prB) v.m (i + 1) k
   have hrow := rowsM_at hg
   have hlen : i < (rowsM v.m).length := by rw [rowsM_len]; exact hlt
   have z1 : (⟨#[58]⟩ : ByteArray).size = 1 := rfl
   have ztk := congrArg ByteArray.size htk
   rw [ByteArray.size_append, ByteArray.size_append, ByteArray.size_append, ByteArray.size_append] at ztk
   generalize hS : layL wordB prB v.l k ++ layM wordB prB (v.m.take i) k = S
   have hSz : S.size = (layL wordB prB v.l k).size + (layM wordB prB (v.m.take i) k).size := by rw [← hS, ByteArray.size_append]
   have y1 : (S ++ padB k).size = S.size + (padB k).size := ByteArray.size_append ..
   have y2 : (S ++ padB k ++ wordB y).size = S.size + (padB k).size + (wordB y).size := by rw [ByteArray.size_append, ByteArray.size_append]
   have y3 : (S ++ padB k ++ wordB y ++ ⟨#[58]⟩).size = S.size + (padB k).size + (wordB y).size + 1 := by rw [ByteArray.size_append, ByteArray.size_append, ByteArray.size_append]; rfl
   clear hb
   refine kW ?_
   refine kP [.v (.str (padB k)), .c (.str y :: (vC (x))), .v (.str (wordB y)), .c (.str y :: (vC (x))), .v (.str (x.tail wordB prB k))] ?_ ?_
   ·((repeat' apply And.intro) <;> first | exact kD | (intro hgd; refine ⟨?_, kG⟩; (repeat' apply And.intro) <;> first | exact kD | skip) | skip)
    all_goals first | exact hrow | exact hta | exact hke | skip
   refine kW ?_
   exact AK.lp ⟨i + 1, by omega, Weak.intro ⟨kI, kI, ⟨_, rfl, .of_eq (congrArg AV.str (by rw [htk, ← hS]; simp only [ByteArray.append_assoc]))⟩, kU, trivial⟩ ⟨kJ, trivial⟩ rfl rfl, by omega⟩
  ·have hlt : i = v.m.length := by
    have : ¬ (i : Int) < (v.m.length : Int) := by simpa using hb
    omega
   subst hlt
   rw [List.take_length]
   refine AK.exit rfl ?_
   refine kW ?_
   refine AK.ret ⟨_, rfl, ?_⟩
   rfl
theorem lay_ok : ∀ N, LayOk N
 | 0 => fun v _ h => by have := v.size_pos; omega
 | N + 1 => lay_step (lay_ok N)
theorem refEmit_a (v : V) (hG : Gd v) (hw : v.w ≤ 60000) (hs : v.size ≤ 6000) : AC Tryz.prog 6 [(vA (v))] (.str (v.emit wordB prB)) := by
 have hE := empty_a v
 have hps := prB_size v hG.2
 have ht := hG.text
 have hP := fun h => refPrintAll_a v hG h
 have hL := lay_ok v.size v 0 (Nat.le_refl _) hG hw (by omega)
 have z2 : (⟨#[10]⟩ : ByteArray).size = 1 := rfl
 unfold V.emit
 refine kE Tryz.func6 a_ref05_Emit_ok a_ref05_Emit_cb fun E hE => ?_
 refine kW ?_
 refine kQ [.v (.bool v.leaf)] ?_
 refine kC (fun hb => ?_) fun hb => ?_
 ·have hP := hP hb
  rw [if_pos hb]
  refine kW ?_
  refine kQ [.v (.str (prB v))] ?_
  refine kW ?_
  refine AK.ret ⟨_, rfl, ?_⟩
  rfl
 ·rw [if_neg (by rw [hb]; simp)]
  refine kW ?_
  refine kQ [.v (.str (v.lay wordB prB 0))] ?_
  refine kW ?_
  refine AK.ret ⟨_, rfl, ?_⟩
  rfl
def awS : ByteArray := ⟨#[98, 46, 99, 61, 120]⟩
def awV11 : V := vMap [(⟨#[97]⟩, V.int 1)]
def awR : V := vMap [(⟨#[97]⟩, V.int 1), (⟨#[98]⟩, vMap [(⟨#[99]⟩, V.str ⟨#[120]⟩)])]
theorem aw_set : setP awV11 awS = (awR, 0) := by
 have c1 : cutB awS 61 = (⟨#[98, 46, 99]⟩, ⟨#[120]⟩, true) := by kernel_rfl
 have c2 : pathP ⟨#[98, 46, 99]⟩ = ([⟨#[98]⟩, ⟨#[99]⟩], 0) := by kernel_rfl
 have c3 : wordP ⟨#[120]⟩ = (V.str ⟨#[120]⟩, 0) := by kernel_rfl
 have c4 : overN 100 awV11 (nest (V.str ⟨#[120]⟩) [⟨#[98]⟩, ⟨#[99]⟩]) = awR := by
  have h1 : cmpS ⟨#[97]⟩ ⟨#[98]⟩ < 0 := by decide +kernel
  rw [overN, if_pos ⟨rfl, rfl⟩]
  show vMap (mergeO (overN 99) [(⟨#[97]⟩, V.int 1)] [(⟨#[98]⟩, vMap [(⟨#[99]⟩, V.str ⟨#[120]⟩)])]) = awR
  rw [mergeO, if_pos h1, mergeO, if_neg (by decide), mergeO]
  rfl
 have c5 : awR.checkC = 0 := by kernel_rfl
 unfold setP
 rw [c1]
 dsimp only
 rw [c2, c3, if_neg (by decide), if_neg (by decide), if_neg (by decide)]
 dsimp only
 rw [c4, c5, if_neg (by decide)]
theorem awake11_a : AC Tryz.prog 7 [] (.bool true) := by
 have hord : awV11.ord := vMap_ord (List.pairwise_singleton _ _) fun p hp => by
  rw [List.mem_singleton.1 hp]
  exact (leaf_mk (k := 2) (b := false) (n := 1) (s := ⟨#[]⟩) (by decide) (by decide)).1
 have htx : awV11.tx := vMap_tx fun p hp => by
  rw [List.mem_singleton.1 hp]
  exact ⟨by decide, (leaf_mk (k := 2) (b := false) (n := 1) (s := ⟨#[]⟩) (by decide) (by decide)).2.1⟩
 have hI := treeInt_a 1
 have hM := treeMap_a [(⟨#[97]⟩, V.int 1)] (by decide +kernel)
 have hS := set_a drop_ok awV11 awS hord htx (by decide +kernel) (by decide +kernel)
 rw [aw_set] at hS
 have hRo : awR.ord := by
  refine vMap_ord (List.pairwise_cons.2 ⟨fun p hp => by rw [List.mem_singleton.1 hp]; show Op.bytesLess _ _ = true; decide +kernel, List.pairwise_singleton _ _⟩) fun p hp => ?_
  rcases List.mem_cons.1 hp with rfl | hp
  ·exact (leaf_mk (k := 2) (b := false) (n := 1) (s := ⟨#[]⟩) (by decide) (by decide)).1
  ·rw [List.mem_singleton.1 hp]
   refine vMap_ord (List.pairwise_singleton _ _) fun p hp => ?_
   rw [List.mem_singleton.1 hp]
   exact (leaf_mk (k := 3) (b := false) (n := 0) (s := ⟨#[120]⟩) (by decide) (by decide)).1
 have hG : AC Tryz.prog 24 [(vA (awR)), .str ⟨#[98]⟩] (.tup [(vA ((vMap [(⟨#[99]⟩, V.str ⟨#[120]⟩)]))), .bool true]) := treeGet_o awR ⟨#[98]⟩ hRo (by decide +kernel)
 refine kE Tryz.func7 a_law11_awake_ok a_law11_awake_cb fun E hE => ?_
 refine kW ?_
 refine kQ [.v ((vA ((V.int 1)))), .v ((vA (awV11))), .v (.tup [(vA (awR)), .int .i64 0])] ?_
 refine kW ?_
 refine kQ [.v (.tup [(vA ((vMap [(⟨#[99]⟩, V.str ⟨#[120]⟩)]))), .bool true])] ?_
 refine kW ?_
 refine kQ [.c (.str ⟨#[99]⟩ :: (vC ((V.str ⟨#[120]⟩))))] ?_
 refine kW ?_
 refine AK.ret ⟨_, rfl, ?_⟩
 rfl
end Go.Proofs.YtnpkejnaeemgjaaGreatDoor
