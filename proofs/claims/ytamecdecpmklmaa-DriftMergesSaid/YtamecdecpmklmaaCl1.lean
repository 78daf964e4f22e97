/-
  slices.Clone at values and at pairs: of a list that isn't empty a row made anew; of an empty one nothing.
-/
import Derived.Test.YtamecdecpmklmaaDriftE
import Derived.Test.YtamecdecpmklmaaEnc
import Derived.WalkLawsBesides
import Derived.WalkSpells
import Derived.Deep.QuietTactic
import Derived.Lib.AppendZeros
import Derived.Laws.Cover3
namespace Go.Proofs.Ytamecdecpmklmaa
set_option linter.unusedSimpArgs false
set_option linter.unusedVariables false
open Go.RowKit

/-- the cells of a slice that reads as rows -/
theorem lst_cells {σ : Sg} {v : Value} {t : Tag} {esz : Nat} {l : List (List AV)} (h : Rel1 σ v (.lst t esz l)) : ∃ (A : Option Addr) (cap b o : Nat) (news : List Value), v = .slice A l.length cap ∧ l.length ≤ cap ∧ (0 < l.length → A = some ⟨b, o, none⟩) ∧ (∀ c ∈ l, c.length = esz) ∧
    news.length = l.length * esz ∧ RelL σ news l.flatten ∧ ∀ (q : Nat) u, news[q]? = some u → σ b (o + q) = some u := by
  cases h with
  | lst t esz l A n cap b o f hn hlen hA hsz hσ hr ht =>
    subst hn
    have hsz' : ∀ c ∈ l, c.length = esz := fun c hc => by
      obtain ⟨i, hi⟩ := List.getElem?_of_mem hc
      exact hsz i c hi
    have hfl : ∀ l : List (List AV), (∀ c ∈ l, c.length = esz) → l.flatten.length = l.length * esz := by
      intro l
      induction l with
      | nil => intro _; simp
      | cons x l ih => intro hx; rw [List.flatten_cons, List.length_append, List.length_cons, ih fun c hc => hx c (by simp [hc]), hx x (by simp), Nat.add_mul]; omega
    have hat : ∀ (l : List (List AV)) (i j : Nat) (c : List AV) (a : AV), (∀ c ∈ l, c.length = esz) → l[i]? = some c → c[j]? = some a → l.flatten[i * esz + j]? = some a := by
      intro l
      induction l with
      | nil => intro i j c a _ h; simp at h
      | cons y l ih =>
        intro i j c a hx hc ha
        have hy := hx y (by simp)
        rw [List.flatten_cons]
        cases i with
        | zero =>
          simp at hc
          subst hc
          rw [Nat.zero_mul, Nat.zero_add, List.getElem?_append_left (List.getElem?_eq_some_iff.1 ha).1]
          exact ha
        | succ i =>
          rw [List.getElem?_append_right (by rw [hy, Nat.add_mul]; omega), hy, show (i + 1) * esz + j - esz = i * esz + j by rw [Nat.add_mul]; omega]
          exact ih i j c a (fun c hc => hx c (by simp [hc])) (by simpa using hc) ha
    refine ⟨A, cap, b, o, flatV l.length esz f, rfl, hlen, hA, hsz', flatV_len _ _ _, ⟨by rw [flatV_len, hfl l hsz'], fun q v a hv ha => ?_⟩, fun q u hu => flatV_cells hσ q u hu⟩
    have hq : q < l.length * esz := by have := (List.getElem?_eq_some_iff.1 hv).1; rwa [flatV_len] at this
    have he : 0 < esz := by
      rcases Nat.eq_zero_or_pos esz with h | h
      · subst h; omega
      · exact h
    rw [flatV_at f hq] at hv
    cases hv
    have h1 : q / esz < l.length := Nat.div_lt_of_lt_mul (by rw [Nat.mul_comm]; exact hq)
    have h2 : l[q / esz]? = some l[q / esz] := List.getElem?_eq_getElem h1
    have h3 : q % esz < (l[q / esz]).length := by rw [hsz _ _ h2]; exact Nat.mod_lt _ he
    have h4 := List.getElem?_eq_getElem h3
    have h5 := hat l _ _ _ _ hsz' h2 h4
    have e : q / esz * esz + q % esz = q := by
      have := Nat.div_add_mod q esz
      rw [Nat.mul_comm] at this
      exact this
    rw [e, ha] at h5
    cases h5
    exact hr _ _ _ _ h2 h4
theorem zeros_one {z : Array Value} (hz : ∀ u ∈ z.toList, u.oneCell' = true) (n : Nat) : ∀ u ∈ (Builtin.zeroCells z n).toList, u.oneCell' = true := by
  intro u hu
  simp only [Builtin.zeroCells, Array.toList_map, List.mem_map] at hu
  obtain ⟨i, hi, rfl⟩ := hu
  have hi2 : i < n * z.size := by simpa using hi
  have hp : 0 < z.size := by
    rcases Nat.eq_zero_or_pos z.size with h | h
    · rw [h] at hi2; omega
    · exact h
  have hlt : i % z.size < z.size := Nat.mod_lt _ hp
  rw [getElem!_pos z _ hlt]
  exact hz _ (by simp)
/-- a row in a new block -/
theorem FRowW.new {σ : Sg} {w w1 : World} (hh : Holds σ w) (hw : w.heap.size ≤ w1.heap.size) {e : TypeId} {news zs : List Value} {esz cap : Nat} {rows : List (List AV)} (hr : RelL σ news rows.flatten) (hl : ∀ c ∈ rows, c.length = esz) (hn : news.length = rows.length * esz) (hz : ∀ u ∈ zs, u.oneCell' = true)
    (hc : news.length + zs.length = cap * esz) (hle : rows.length ≤ cap) : FRowW σ (w1.alloc (.cells (news ++ zs).toArray e)) w1.heap.size cap esz rows := by
  refine ⟨e, _, heap_alloc_new w1 _, by simpa using hc, hle, hl, ?_, fun u hu => ?_, fun j => ?_⟩
  · rw [← hn]
    simpa using hr
  · rcases List.mem_append.1 (by simpa using hu) with h | h
    · exact hr.one u h
    · exact hz u h
  · cases hs : σ w1.heap.size j with
    | none => rfl
    | some v =>
      have := World.block_lt_of_cell? w _ (hh _ _ _ hs)
      simp at this
      omega
def zeroV : Value := .agg #[.int .i64 0, .bool false, .int .i64 0, .string ⟨#[]⟩, .slice none 0 0, .slice none 0 0]
theorem info_val : (Try.prog.info? 27).map (fun i => (i.zero, i.size, i.bytes)) = some (some zeroV, 6, 88) := by kernel_rfl
set_option maxRecDepth 100000 in
theorem cloneV_mf (rows : List (List AV)) (hne : 0 < rows.length) (hb : rows.length * 88 ≤ 140737488355328) : MF Try.prog 47 [.lst .any 6 rows] 6 rows := by
  refine ⟨a_slices_Clone_Value_cb, fun σ w vs hh hr => ?_⟩
  obtain ⟨v, rfl⟩ := List.length_eq_one_iff.1 hr.1
  have h1 : Rel1 σ v (.lst .any 6 rows) := hr.2 0 v _ rfl rfl
  obtain ⟨A, cap, b, o, news, rfl, hcap, hA, hsz, hnl, hrel, hcell⟩ := lst_cells h1
  have := hA hne
  subst this
  obtain ⟨i0, hi0, hz0, hzs, hzb⟩ := info_parts info_val
  obtain ⟨zs, hz1, hz2, hrun⟩ : ∃ zs : List Value, (∀ u ∈ zs, u.oneCell' = true) ∧ rows.length * 6 + zs.length = grownCap (w.alloc (.cells #[] 27)) (0 + rows.length) 0 27 * 6 ∧
      ∀ ty, (Builtin.append_ #[24, 24] ty #[.slice (some ⟨w.heap.size, 0, none⟩) 0 0, .slice (some ⟨b, o, none⟩) rows.length cap]).run Try.prog (w.alloc (.cells #[] 27)) =
        .ok (.slice (some ⟨w.heap.size + 1, 0, none⟩) rows.length (grownCap (w.alloc (.cells #[] 27)) (0 + rows.length) 0 27)) ((w.alloc (.cells #[] 27)).drew.alloc (.cells (news ++ zs).toArray 27)) := by
    have hge := grownCap_ge (w.alloc (.cells #[] 27)) (0 + rows.length) 0 27
    refine ⟨(Builtin.zeroCells zeroV.cells (grownCap (w.alloc (.cells #[] 27)) (0 + rows.length) 0 27 - (0 + rows.length))).toList, zeros_one (by simp [zeroV, Value.cells, Value.oneCell']) _, ?_, fun ty => ?_⟩
    · have : (zeroV.cells).size = 6 := rfl
      simp only [Array.length_toList, size_zeroCells, this]
      rw [← Nat.add_mul]
      congr 1
      omega
    · have := run_append_grow (w.alloc (.cells #[] 27)) 24 ty 27 i0 _ Try.underlying24 hi0 hz0 ⟨w.heap.size, 0, none⟩ 0 0 [] (by simp) (fun j v h => by simp at h) ⟨b, o, none⟩ rows.length cap news (by rw [hzs]; exact hnl)
        (fun j v hj => by
          rw [Addr.add_lit]
          have h2 := hh _ _ _ (hcell j v hj)
          rw [World.cell?_alloc_lt w _ _ (World.block_lt_of_cell? w _ h2)]
          exact h2) (by omega) (by omega) (by rw [hzb]; exact growslice_fits (by omega) (by omega))
      rw [this]
      simp
      congr 2
      apply Array.ext'
      simp
  have q24 : ∀ (w : World) (a : Option Addr) (n c : Nat), (binOp .eql 24 (.slice a n c) (.slice none 0 0)).run Try.prog w = .ok (.bool a.isNone) w := fun w a n c => by simp [binOp, run_equal_slice_nil w _ _ a n c Try.underlying24]
  go_enter Try.func47, Try.ntmps47
  go_wp2_with (at_builtin; refine Lib.wpList_append_run _ rfl _ _ _ _ rfl _ _ rfl rfl _ _ (hrun _) ?_)
  go_wp2
  go_ret
  have hge := grownCap_ge (w.alloc (.cells #[] 27)) (0 + rows.length) 0 27
  have hbl : Below w.heap.size w ((w.alloc (.cells #[] 27)).drew.alloc (.cells (news ++ zs).toArray 27)) := (((Below.refl _ _).alloc (Nat.le_refl _) _).drew).alloc (by simp) _
  exact ⟨σ, w.heap.size + 1, _, rfl, Ext.refl _ _, fun b q v hv => (hbl.cell (p := ⟨b, q, none⟩) (World.block_lt_of_cell? w _ (hh _ _ _ hv))).trans (hh _ _ _ hv), hbl, by omega,
    by
      have := FRowW.new (w1 := (w.alloc (.cells #[] 27)).drew) hh (by simp) (e := 27) hrel hsz hnl hz1 (by rw [hnl]; exact hz2) (by omega)
      have e : (w.alloc (.cells #[] 27)).drew.heap.size = w.heap.size + 1 := by simp
      rw [e, Nat.zero_add] at this
      exact this⟩
def zeroP : Value := .agg #[.string ⟨#[]⟩, .int .i64 0, .bool false, .int .i64 0, .string ⟨#[]⟩, .slice none 0 0, .slice none 0 0]
theorem info_pair : (Try.prog.info? 59).map (fun i => (i.zero, i.size, i.bytes)) = some (some zeroP, 7, 104) := by kernel_rfl
set_option maxRecDepth 100000 in
theorem cloneP_mf (rows : List (List AV)) (hne : 0 < rows.length) (hb : rows.length * 104 ≤ 140737488355328) : MF Try.prog 48 [.lst .any 7 rows] 7 rows := by
  refine ⟨a_slices_Clone_Pair_cb, fun σ w vs hh hr => ?_⟩
  obtain ⟨v, rfl⟩ := List.length_eq_one_iff.1 hr.1
  have h1 : Rel1 σ v (.lst .any 7 rows) := hr.2 0 v _ rfl rfl
  obtain ⟨A, cap, b, o, news, rfl, hcap, hA, hsz, hnl, hrel, hcell⟩ := lst_cells h1
  have := hA hne
  subst this
  obtain ⟨i0, hi0, hz0, hzs, hzb⟩ := info_parts info_pair
  obtain ⟨zs, hz1, hz2, hrun⟩ : ∃ zs : List Value, (∀ u ∈ zs, u.oneCell' = true) ∧ rows.length * 7 + zs.length = grownCap (w.alloc (.cells #[] 59)) (0 + rows.length) 0 59 * 7 ∧
      ∀ ty, (Builtin.append_ #[25, 25] ty #[.slice (some ⟨w.heap.size, 0, none⟩) 0 0, .slice (some ⟨b, o, none⟩) rows.length cap]).run Try.prog (w.alloc (.cells #[] 59)) =
        .ok (.slice (some ⟨w.heap.size + 1, 0, none⟩) rows.length (grownCap (w.alloc (.cells #[] 59)) (0 + rows.length) 0 59)) ((w.alloc (.cells #[] 59)).drew.alloc (.cells (news ++ zs).toArray 59)) := by
    have hge := grownCap_ge (w.alloc (.cells #[] 59)) (0 + rows.length) 0 59
    refine ⟨(Builtin.zeroCells zeroP.cells (grownCap (w.alloc (.cells #[] 59)) (0 + rows.length) 0 59 - (0 + rows.length))).toList, zeros_one (by simp [zeroP, Value.cells, Value.oneCell']) _, ?_, fun ty => ?_⟩
    · have : (zeroP.cells).size = 7 := rfl
      simp only [Array.length_toList, size_zeroCells, this]
      rw [← Nat.add_mul]
      congr 1
      omega
    · have := run_append_grow (w.alloc (.cells #[] 59)) 25 ty 59 i0 _ Try.underlying25 hi0 hz0 ⟨w.heap.size, 0, none⟩ 0 0 [] (by simp) (fun j v h => by simp at h) ⟨b, o, none⟩ rows.length cap news (by rw [hzs]; exact hnl)
        (fun j v hj => by
          rw [Addr.add_lit]
          have h2 := hh _ _ _ (hcell j v hj)
          rw [World.cell?_alloc_lt w _ _ (World.block_lt_of_cell? w _ h2)]
          exact h2) (by omega) (by omega) (by rw [hzb]; exact growslice_fits (by omega) (by omega))
      rw [this]
      simp
      congr 2
      apply Array.ext'
      simp
  have q24 : ∀ (w : World) (a : Option Addr) (n c : Nat), (binOp .eql 25 (.slice a n c) (.slice none 0 0)).run Try.prog w = .ok (.bool a.isNone) w := fun w a n c => by simp [binOp, run_equal_slice_nil w _ _ a n c Try.underlying25]
  go_enter Try.func48, Try.ntmps48
  go_wp2_with (at_builtin; refine Lib.wpList_append_run _ rfl _ _ _ _ rfl _ _ rfl rfl _ _ (hrun _) ?_)
  go_wp2
  go_ret
  have hge := grownCap_ge (w.alloc (.cells #[] 59)) (0 + rows.length) 0 59
  have hbl : Below w.heap.size w ((w.alloc (.cells #[] 59)).drew.alloc (.cells (news ++ zs).toArray 59)) := (((Below.refl _ _).alloc (Nat.le_refl _) _).drew).alloc (by simp) _
  exact ⟨σ, w.heap.size + 1, _, rfl, Ext.refl _ _, fun b q v hv => (hbl.cell (p := ⟨b, q, none⟩) (World.block_lt_of_cell? w _ (hh _ _ _ hv))).trans (hh _ _ _ hv), hbl, by omega,
    by
      have := FRowW.new (w1 := (w.alloc (.cells #[] 59)).drew) hh (by simp) (e := 59) hrel hsz hnl hz1 (by rw [hnl]; exact hz2) (by omega)
      have e : (w.alloc (.cells #[] 59)).drew.heap.size = w.heap.size + 1 := by simp
      rw [e, Nat.zero_add] at this
      exact this⟩
set_option maxRecDepth 100000 in
theorem cloneV_nil : AC Try.prog 47 [.lst .any 6 []] (.lst .any 6 []) := by
  refine ⟨a_slices_Clone_Value_cb, fun σ w vs hh hr => ?_⟩
  obtain ⟨v, rfl⟩ := List.length_eq_one_iff.1 hr.1
  have h1 : Rel1 σ v (.lst .any 6 []) := hr.2 0 v _ rfl rfl
  obtain ⟨A, cap, b, o, news, rfl, _⟩ := lst_cells h1
  have q24 : ∀ (w : World) (a : Option Addr) (n c : Nat), (binOp .eql 24 (.slice a n c) (.slice none 0 0)).run Try.prog w = .ok (.bool a.isNone) w := fun w a n c => by simp [binOp, run_equal_slice_nil w _ _ a n c Try.underlying24]
  obtain ⟨i0, hi0, _⟩ := info_parts info_val
  have hrel : ∀ (A : Option Addr) (cap : Nat), RelR σ (.slice A 0 cap) (.lst .any 6 []) := fun A cap => .lst .any 6 [] A 0 cap 0 0 (fun _ _ => undef) rfl (by omega) (fun h => by omega) (fun i c h => by simp at h) (fun i j h => by omega) (fun i j c a h => by simp at h) trivial
  cases A with
  | none =>
    go_enter Try.func47, Try.ntmps47
    go_wp2
    go_ret
    exact ⟨σ, _, rfl, Ext.refl _ _, hh, Below.refl _ _, hrel none 0⟩
  | some a =>
    have hrun := fun ty => run_append_zero (P := Try.prog) (w.alloc (.cells #[] 27)) 24 ty 27 Try.underlying24 hi0 (some ⟨w.heap.size, 0, none⟩) (some a) 0 0 cap (by omega)
    go_enter Try.func47, Try.ntmps47
    go_wp2_with (at_builtin; refine Lib.wpList_append_run _ rfl _ _ _ _ rfl _ _ rfl rfl _ _ (hrun _) ?_)
    go_wp2
    go_ret
    have hbl : Below w.heap.size w (w.alloc (.cells #[] 27)) := (Below.refl _ _).alloc (Nat.le_refl _) _
    exact ⟨σ, _, rfl, Ext.refl _ _, fun b q v hv => (hbl.cell (p := ⟨b, q, none⟩) (World.block_lt_of_cell? w _ (hh _ _ _ hv))).trans (hh _ _ _ hv), hbl, hrel _ _⟩
set_option maxRecDepth 100000 in
theorem cloneP_nil : AC Try.prog 48 [.lst .any 7 []] (.lst .any 7 []) := by
  refine ⟨a_slices_Clone_Pair_cb, fun σ w vs hh hr => ?_⟩
  obtain ⟨v, rfl⟩ := List.length_eq_one_iff.1 hr.1
  have h1 : Rel1 σ v (.lst .any 7 []) := hr.2 0 v _ rfl rfl
  obtain ⟨A, cap, b, o, news, rfl, _⟩ := lst_cells h1
  have q24 : ∀ (w : World) (a : Option Addr) (n c : Nat), (binOp .eql 25 (.slice a n c) (.slice none 0 0)).run Try.prog w = .ok (.bool a.isNone) w := fun w a n c => by simp [binOp, run_equal_slice_nil w _ _ a n c Try.underlying25]
  obtain ⟨i0, hi0, _⟩ := info_parts info_pair
  have hrel : ∀ (A : Option Addr) (cap : Nat), RelR σ (.slice A 0 cap) (.lst .any 7 []) := fun A cap => .lst .any 7 [] A 0 cap 0 0 (fun _ _ => undef) rfl (by omega) (fun h => by omega) (fun i c h => by simp at h) (fun i j h => by omega) (fun i j c a h => by simp at h) trivial
  cases A with
  | none =>
    go_enter Try.func48, Try.ntmps48
    go_wp2
    go_ret
    exact ⟨σ, _, rfl, Ext.refl _ _, hh, Below.refl _ _, hrel none 0⟩
  | some a =>
    have hrun := fun ty => run_append_zero (P := Try.prog) (w.alloc (.cells #[] 59)) 25 ty 59 Try.underlying25 hi0 (some ⟨w.heap.size, 0, none⟩) (some a) 0 0 cap (by omega)
    go_enter Try.func48, Try.ntmps48
    go_wp2_with (at_builtin; refine Lib.wpList_append_run _ rfl _ _ _ _ rfl _ _ rfl rfl _ _ (hrun _) ?_)
    go_wp2
    go_ret
    have hbl : Below w.heap.size w (w.alloc (.cells #[] 59)) := (Below.refl _ _).alloc (Nat.le_refl _) _
    exact ⟨σ, _, rfl, Ext.refl _ _, fun b q v hv => (hbl.cell (p := ⟨b, q, none⟩) (World.block_lt_of_cell? w _ (hh _ _ _ hv))).trans (hh _ _ _ hv), hbl, hrel _ _⟩
end Go.Proofs.Ytamecdecpmklmaa
