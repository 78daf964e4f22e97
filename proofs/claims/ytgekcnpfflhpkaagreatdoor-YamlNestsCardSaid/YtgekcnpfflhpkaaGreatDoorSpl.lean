/-
  strings.Split at one byte, walked (over the kit's contract of genSplit).
-/
import Derived.Test.YtgekcnpfflhpkaaGreatDoorRepA
import Derived.Test.YtgekcnpfflhpkaaGreatDoorShl
import Derived.Test.YtgekcnpfflhpkaaGreatDoorCl2
import Derived.Lib.Strings
namespace Go.Proofs.YtgekcnpfflhpkaaGreatDoor
set_option linter.unusedSimpArgs false
set_option linter.unusedVariables false
open Go.RowKit

def rowsT (p : List ByteArray) : List (List AV) := p.map fun s => [.str s]
theorem rowsT_len (l : List ByteArray) : (rowsT l).length = l.length := List.length_map _
theorem rowsT_at {l : List ByteArray} {k : Nat} {s : ByteArray} (h : l[k]? = some s) : (rowsT l)[k]? = some [.str s] := by simp [rowsT, h]
theorem drop_atT {α : Type} {l : List α} {i : Nat} {x : α} (h : l[i]? = some x) : x :: l.drop (i + 1) = l.drop i := by
  obtain ⟨h1, h2⟩ := List.getElem?_eq_some_iff.1 h
  rw [List.drop_eq_getElem_cons h1, h2]
theorem ixT_cases (l : List UInt8) (c : UInt8) : (Lib.indexByte l c = -1 ∧ c ∉ l) ∨ ∃ i : Nat, Lib.indexByte l c = i ∧ i < l.length ∧ l[i]? = some c ∧ c ∉ l.take i := by
  induction l with
  | nil => exact .inl ⟨rfl, by simp⟩
  | cons b l ih =>
    rw [Lib.indexByte]
    by_cases h : b = c
    · subst h
      exact .inr ⟨0, by simp, by simp, rfl, by simp⟩
    · rw [if_neg (by simpa using h)]
      rcases ih with ⟨h1, h2⟩ | ⟨i, h1, h2, h3, h4⟩
      · exact .inl ⟨by rw [h1]; rfl, by simp [h2, Ne.symm h]⟩
      · refine .inr ⟨i + 1, ?_, by simp; omega, by simpa using h3, by simp [h4, Ne.symm h]⟩
        rw [h1, if_neg (by simp)]
        simp
theorem countT_one (c : UInt8) : ∀ (fuel : Nat) (l : List UInt8), l.length < fuel → Lib.countFrom [c] fuel l = l.count c
  | 0, l, h => by omega
  | fuel + 1, l, h => by
    rw [Lib.countFrom, Lib.index_one]
    rcases ixT_cases l c with ⟨h1, h2⟩ | ⟨i, h1, h2, h3, h4⟩
    · rw [h1, List.count_eq_zero_of_not_mem h2]
      rfl
    · have hne : ¬ ((Lib.indexByte l c == -1) = true) := by rw [h1]; simp
      rw [if_neg hne, h1, countT_one c fuel _ (by simp; omega)]
      have e : l = l.take i ++ c :: l.drop (i + 1) := by
        rw [drop_atT h3, List.take_append_drop]
      have hc : l.count c = (l.take i ++ c :: l.drop (i + 1)).count c := congrArg (List.count c) e
      rw [hc, List.count_append, List.count_eq_zero_of_not_mem h4, List.count_cons_self]
      simp
      omega
theorem rowsT_rel (σ : Sg) (l : List ByteArray) : RelL σ (l.map Value.string) (rowsT l).flatten := by
  have e : (rowsT l).flatten = l.map AV.str := by
    induction l with
    | nil => rfl
    | cons x l ih => simp [rowsT] at ih ⊢; exact ih
  rw [e]
  refine ⟨by simp, fun j v a hv ha => ?_⟩
  rw [List.getElem?_map] at hv ha
  cases h : l[j]? with
  | none => rw [h] at hv; cases hv
  | some x =>
    rw [h] at hv ha
    cases hv; cases ha
    exact .str x
def splT (c : UInt8) (s : ByteArray) : List ByteArray := Lib.splitB ⟨#[c]⟩ 0 (Lib.countB s ⟨#[c]⟩) s
theorem splT_len (c : UInt8) (s : ByteArray) : (splT c s).length = Lib.countB s ⟨#[c]⟩ + 1 := Lib.splitB_all ⟨#[c]⟩ (Nat.le_refl 1) _ _ _ rfl
set_option maxRecDepth 100000 in
theorem genSplitT_mf (c : UInt8) (s : ByteArray) (hs : s.size ≤ 1000000) : MF Tryz.prog 31 [.str s, .str ⟨#[c]⟩, .int .i64 0, .int .i64 (-1)] 1 (rowsT (splT c s)) := by
  refine ⟨by kernel_rfl, fun σ w vs hh hr hg => ?_⟩
  have hl : vs.length = 4 := hr.1
  obtain ⟨v1, v2, v3, v4, rfl⟩ : ∃ a b c d, vs = [a, b, c, d] := by
    rcases vs with _ | ⟨a, _ | ⟨b, _ | ⟨c, _ | ⟨d, _ | ⟨e, l⟩⟩⟩⟩⟩ <;> simp at hl
    exact ⟨a, b, c, d, rfl⟩
  have h1 : Rel1 σ v1 (.str s) := hr.2 0 v1 _ rfl rfl
  have h2 : Rel1 σ v2 (.str ⟨#[c]⟩) := hr.2 1 v2 _ rfl rfl
  have h3 : Rel1 σ v3 (.int .i64 0) := hr.2 2 v3 _ rfl rfl
  have h4 : Rel1 σ v4 (.int .i64 (-1)) := hr.2 3 v4 _ rfl rfl
  cases h1; cases h2; cases h3; cases h4
  have hcl := Lib.countB_le ⟨#[c]⟩ (Nat.le_refl 1) s.size s (Nat.le_refl _)
  have hcnt : ∀ w : World, Calls Tryz.prog 66 #[.string s, .string ⟨#[c]⟩] w fun e w' => e = .returned (.int .i64 (Lib.countB s ⟨#[c]⟩)) ∧ w' = w := fun w => by
    refine (Tryz.strings_Count_one s c w).mono ?_
    rintro e w' ⟨rfl, rfl⟩
    refine ⟨?_, rfl⟩
    have := countT_one c (s.data.toList.length + 1) s.data.toList (Nat.lt_succ_self _)
    rw [show Lib.countB s ⟨#[c]⟩ = Lib.countFrom [c] (s.data.toList.length + 1) s.data.toList from rfl, this]
    rfl
  have hix : ∀ (x : ByteArray) (w : World), Calls Tryz.prog 67 #[.string x, .string ⟨#[c]⟩] w fun e w' => e = .returned (.int .i64 (Lib.indexB x ⟨#[c]⟩)) ∧ w' = w := fun x w => by
    refine (Tryz.strings_Index_one x c w).mono ?_
    rintro e w' ⟨rfl, rfl⟩
    refine ⟨?_, rfl⟩
    rw [show Lib.indexB x ⟨#[c]⟩ = Lib.index x.data.toList [c] from rfl, Lib.index_one]
  have hN : ((splT c s).length : Int) = min (if (-1 : Int) < 0 then (Lib.countB s ⟨#[c]⟩ : Int) + 1 else -1) ((s.size : Int) + 1) := by
    rw [if_pos (by decide), splT_len]
    omega
  refine (Any.strings_genSplit_core Tryz.lays221 (by kernel_rfl) s ⟨#[c]⟩ 0 (-1) (splT c s).length w (by omega) (Nat.le_refl 1) (Nat.zero_le _) (fun x _ _ => hix x _) (hcnt w) (by decide) (by decide) hN).mono ?_
  rintro e w' ⟨rfl, rfl⟩
  have e1 : Lib.splitB ⟨#[c]⟩ 0 ((splT c s).length - 1) s = splT c s := by rw [splT_len]; rfl
  rw [e1]
  have hbl : Below w.heap.size w (w.alloc (.cells (Lib.cellsOf (splT c s) (splT c s).length) 9)) := (Below.refl _ _).alloc (Nat.le_refl _) _
  have hne : 0 < (splT c s).length := by rw [splT_len]; omega
  refine ⟨σ, w.heap.size, _, by rw [rowsT_len], Ext.refl _ _, fun b q v hv => (hbl.cell (p := ⟨b, q, none⟩) (World.block_lt_of_cell? w _ (hh _ _ _ hv))).trans (hh _ _ _ hv), hbl, by omega, ?_⟩
  have e2 : Lib.cellsOf (splT c s) (splT c s).length = ((splT c s).map Value.string ++ []).toArray := by simp [Lib.cellsOf]
  rw [e2]
  refine FRowW.new hh (Nat.le_refl _) (e := 9) ?_ ?_ ?_ (by simp) ?_ ?_
  · exact rowsT_rel σ _
  · intro q hc
    simp only [rowsT, List.mem_map] at hc
    obtain ⟨x, _, rfl⟩ := hc
    rfl
  · simp [rowsT_len]
  · simp
  · rw [rowsT_len]; exact Nat.le_refl _
theorem rowsT_ok (l : List ByteArray) : RowsOk 1 (rowsT l) := by
  refine ⟨by omega, fun q hc => ?_⟩
  simp only [rowsT, List.mem_map] at hc
  obtain ⟨x, _, rfl⟩ := hc
  exact ⟨rfl, rfl⟩
theorem splitT_a (c : UInt8) (s : ByteArray) (hs : s.size ≤ 1000000) : AC Tryz.prog 14 [.str s, .str ⟨#[c]⟩] (.lst .any 1 (rowsT (splT c s))) := by
  have h := genSplitT_mf c s hs
  refine AC.enter Tryz.func14 a_strings_Split_ok a_strings_Split_cb (by rfl) fun E hE => ?_
  show AK _ _ _ [.c b_strings_Split] _ _
  rw [b_strings_Split]
  (repeat (first | apply kS | apply kB | apply kL | apply kN | refine kA follows_any ?_))
  refine kR follows_any [.f 1 (rowsT (splT c s))] (by rfl) ?_ ?_
  · ((repeat' apply And.intro) <;> first | exact kD | (intro hgd; refine ⟨?_, kG⟩; (repeat' apply And.intro) <;> first | exact kD | skip) | skip)
  refine AK.open2 7 1000010 rfl (by omega) rfl (rowsT_ok _) fun cap2 cs2 hr2 => ?_
  refine AK.fz 1000010 rfl ?_
  refine AK.weak (Weak.intro (L := [(4, .lst .any 1 (rowsT (splT c s)))]) (BL := []) ⟨⟨_, rfl, .one (hr2.le rfl)⟩, trivial⟩ trivial rfl rfl (by exact trivial)) ?_
  (repeat (first | apply kS | apply kB | apply kL | apply kN | refine kA follows_any ?_))
  refine AK.ret ⟨_, rfl, ?_⟩
  rfl
theorem splT_mem {c : UInt8} {s x : ByteArray} (h : x ∈ splT c s) : x.size ≤ s.size := by
  have key : ∀ (k : Nat) (s : ByteArray), ∀ x ∈ Lib.splitB ⟨#[c]⟩ 0 k s, x.size ≤ s.size := by
    intro k
    induction k with
    | zero => intro s x hx; simp [Lib.splitB] at hx; subst hx; exact Nat.le_refl _
    | succ k ih =>
      intro s x hx
      rw [Lib.splitB] at hx
      split at hx
      · simp at hx; subst hx; exact Nat.le_refl _
      · rcases List.mem_cons.1 hx with rfl | hx
        · rw [ByteArray.size_extract]; omega
        · refine Nat.le_trans (ih _ x hx) ?_
          rw [ByteArray.size_extract]; omega
  exact key _ _ _ h
theorem splT_le (c : UInt8) (s : ByteArray) : (splT c s).length ≤ s.size + 1 := by
  rw [splT_len]
  have := Lib.countB_le ⟨#[c]⟩ (Nat.le_refl 1) s.size s (Nat.le_refl _)
  omega
end Go.Proofs.YtgekcnpfflhpkaaGreatDoor
