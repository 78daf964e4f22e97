/-
  The texts that the claim wants, one behind the other: part 44.
-/
import Derived.Test.YtnpkejnaeemgjaaGreatDoorS43
import Derived.Lib.Strings
set_option linter.unusedSimpArgs false
set_option linter.unusedVariables false
namespace Go.Proofs.YtnpkejnaeemgjaaGreatDoor
open Go.RowKit
def rowsP (p : List ByteArray) : List (List AV) := p.map fun s => [.str s]
theorem rowsP_len (l : List ByteArray) : (rowsP l).length = l.length := List.length_map _
theorem rowsP_at {l : List ByteArray} {k : Nat} {s : ByteArray} (h : l[k]? = some s) : (rowsP l)[k]? = some [.str s] := by simp [rowsP, h]
def okW (c : UInt8) : Bool := decide (97 ≤ c.toNat) && decide (c.toNat ≤ 122) || decide (65 ≤ c.toNat) && decide (c.toNat ≤ 90) || decide (48 ≤ c.toNat) && decide (c.toNat ≤ 57) || c.toNat == 95 || c.toNat == 45
def wdB (s : ByteArray) : Bool := allB okW s && (decide (1 ≤ s.size) && decide (s.size ≤ 256))
theorem word_a (s : ByteArray) (hs : s.size ≤ 140737488355328) : AC Tryz.prog 93 [.str s] (.bool (wdB s)) := by
 refine kE Tryz.func93 a_path_word_ok a_path_word_cb fun E hE => ?_
 refine kW ?_
 refine AK.loopI (fun k : Nat => (frOf [(0, .str s), (6, .int .i64 s.size), (7, .int .i64 k)], ⟨boxOf [], fun _ => 0⟩)) (fun k => k ≤ s.size ∧ allTo okW s k) (fun k => s.size - k) 0 ⟨by omega, allTo_zero _ _⟩ (Weak.intro ⟨kI, kI, kI, trivial⟩ trivial rfl rfl) fun k ⟨hk, hno⟩ => ?_
 refine kW ?_
 refine kC (fun hb => ?_) fun hb => ?_
 ·have hlt : k < s.size := by simpa using hb
  refine kW ?_
  refine kQ [] ?_
  rw [show s.data.getD (k : Int).toNat 0 = s[k] from byte_at hlt]
  refine kW ?_
  refine kQ [] ?_
  refine kC (fun hb => ?_) fun hb => ?_
  ·refine kW ?_
   refine AK.ret ⟨_, rfl, ?_⟩
   have hf : okW s[k] = false := by
    simp only [Bool.or_eq_true, Bool.and_eq_true, Bool.not_eq_true', Bool.or_eq_false_iff, Bool.and_eq_false_iff, decide_eq_true_eq, decide_eq_false_iff_not] at hb
    simp only [okW, Bool.or_eq_false_iff, Bool.and_eq_false_iff, decide_eq_false_iff_not, beq_eq_false_iff_ne, ne_eq]
    omega
   rw [wdB, allB_false hlt hf]
   rfl
  ·have ht : okW s[k] = true := by
    simp only [Bool.or_eq_false_iff, Bool.and_eq_false_iff, Bool.not_eq_false', Bool.or_eq_true, Bool.and_eq_true, decide_eq_true_eq, decide_eq_false_iff_not] at hb
    simp only [okW, Bool.or_eq_true, Bool.and_eq_true, decide_eq_true_eq, beq_iff_eq]
    omega
   refine kW ?_
   exact AK.lp ⟨k + 1, ⟨by omega, allTo_succ hno hlt ht⟩, Weak.intro ⟨kI, kI, kU, trivial⟩ trivial rfl rfl, by omega⟩
 ·have hlt : k = s.size := by have : s.size ≤ k := by simpa using hb
                              omega
  subst hlt
  refine AK.exit rfl ?_
  refine kW ?_
  refine kQ [] ?_
  refine kW ?_
  refine AK.ret ⟨_, rfl, ?_⟩
  show AV.bool _ = AV.bool _
  refine congrArg AV.bool ?_
  rw [wdB, allB_true hno, Bool.eq_iff_iff]
  by_cases hz : s = ByteArray.empty
  ·have h0 := (sz0 s).1 hz
   have hz' : s = ⟨#[]⟩ := hz
   simp [hz', ByteArray.size]
  ·have h1 : 1 ≤ s.size := by have := mt (sz0 s).2 hz; omega
   have hz' : ¬ s = ⟨#[]⟩ := hz
   simp [hz, h1]
   try first | exact hz' | exact ⟨fun h => by have := h.2; omega, fun h => ⟨hz', by omega⟩⟩
theorem parse1_a (s : ByteArray) (hs : s.size ≤ 140737488355328) : AC Tryz.prog 92 [.str s] (.bool (!wdB s)) := by
 have h := word_a s hs
 refine kE Tryz.func92 a_path_Parse_1_ok a_path_Parse_1_cb fun E hE => ?_
 refine kW ?_
 refine kQ [.v (.bool (wdB s))] ?_
 refine kW ?_
 refine AK.ret ⟨_, rfl, ?_⟩
 rfl
def badAt : List ByteArray → Nat → Int
 | [], _ => -1
 | s :: l, k => if wdB s = false then k else badAt l (k + 1)
theorem badAt_neg (l : List ByteArray) (k : Nat) : badAt l k = -1 ∧ l.all wdB = true ∨ 0 ≤ badAt l k ∧ l.all wdB = false := by
 induction l generalizing k with
 | nil => exact .inl ⟨rfl, rfl⟩
 | cons s l ih =>
  rw [badAt]
  by_cases h : wdB s = false
  ·rw [if_pos h]; exact .inr ⟨by omega, by simp [h]⟩
  ·rw [if_neg h]
   have h' : wdB s = true := by simpa using h
   rcases ih (k + 1) with ⟨h1, h2⟩ | ⟨h1, h2⟩
   ·exact .inl ⟨h1, by simp [h', h2]⟩
   ·exact .inr ⟨h1, by simp only [List.all_cons, h2, Bool.and_false]⟩
theorem badAt_drop {l : List ByteArray} {k : Nat} {s : ByteArray} (h : l[k]? = some s) : badAt (l.drop k) k = if wdB s = false then (k : Int) else badAt (l.drop (k + 1)) (k + 1) := by
 rw [List.drop_eq_getElem_cons (List.getElem?_eq_some_iff.1 h).1, badAt, (List.getElem?_eq_some_iff.1 h).2]
theorem indexFn_a (l : List ByteArray) (hl : l.length ≤ 2000000000000) (hs : ∀ s ∈ l, s.size ≤ 140737488355328) : AC Tryz.prog 128 [.lst .any 1 (rowsP l), .fn 92 []] (.int .i64 (badAt l 0)) := by
 refine kE Tryz.func128 a_slices_IndexFunc_string_ok a_slices_IndexFunc_string_cb fun E hE => ?_
 refine kW ?_
 refine AK.loopI (fun k : Nat => (frOf [(0, .lst .any 1 (rowsP l)), (1, .fn 92 []), (7, .int .i64 (rowsP l).length), (8, .int .i64 k)], ⟨boxOf [], fun _ => 0⟩)) (fun k => k ≤ l.length ∧ badAt (l.drop k) k = badAt l 0) (fun k => l.length - k) 0 ⟨by omega, rfl⟩ (Weak.intro ⟨kI, kI, kI, kI, trivial⟩ trivial rfl rfl) fun k ⟨hk, hr⟩ => ?_
 refine kW ?_
 refine kC (fun hb => ?_) fun hb => ?_
 ·have hlt : k < l.length := by simpa [rowsP_len] using hb
  obtain ⟨s, hg⟩ : ∃ x, l[k]? = some x := ⟨_, List.getElem?_eq_getElem hlt⟩
  have hp := parse1_a s (hs s (List.mem_of_getElem? hg))
  rw [badAt_drop hg] at hr
  have hll := rowsP_len l
  refine kW ?_
  refine kP [.c [.str s], .v (.bool (!wdB s))] ?_ ?_
  ·((repeat' apply And.intro) <;> first | exact kD | (intro hgd; refine ⟨?_, kG⟩; (repeat' apply And.intro) <;> first | exact kD | skip) | skip)
   exact rowsP_at hg
  refine kC (fun hb => ?_) fun hb => ?_
  ·have hf : wdB s = false := by simpa using hb
   rw [if_pos hf] at hr
   refine kW ?_
   refine AK.ret ⟨_, rfl, ?_⟩
   exact congrArg (AV.int _) hr
  ·have hf : ¬ wdB s = false := by simpa using hb
   rw [if_neg hf] at hr
   refine kW ?_
   exact AK.lp ⟨k + 1, ⟨by omega, hr⟩, Weak.intro ⟨kI, kI, kI, kU, trivial⟩ trivial rfl rfl, by omega⟩
 ·have hlt : k = l.length := by have : l.length ≤ k := by simpa [rowsP_len] using hb
                                omega
  subst hlt
  refine AK.exit rfl ?_
  refine kW ?_
  refine AK.ret ⟨_, rfl, ?_⟩
  rw [← hr, List.drop_length]
  rfl
theorem pathHas_a (l : List ByteArray) (hl : l.length ≤ 2000000000000) (hs : ∀ s ∈ l, s.size ≤ 140737488355328) : AC Tryz.prog 91 [.lst .any 1 (rowsP l), .fn 92 []] (.bool (!l.all wdB)) := by
 have h := indexFn_a l hl hs
 refine kE Tryz.func91 a_slices_ContainsFunc_string_ok a_slices_ContainsFunc_string_cb fun E hE => ?_
 refine kW ?_
 refine kQ [.v (.int .i64 (badAt l 0))] ?_
 refine kW ?_
 refine AK.ret ⟨_, rfl, ?_⟩
 refine congrArg AV.bool ?_
 rcases badAt_neg l 0 with ⟨h1, h2⟩ | ⟨h1, h2⟩
 ·rw [h1, h2]; rfl
 ·rw [h2, Bool.not_false]; exact decide_eq_true h1
end Go.Proofs.YtnpkejnaeemgjaaGreatDoor
/-
 Texts in quotes: what is read of them, walked.
-/
namespace Go.Proofs.YtnpkejnaeemgjaaGreatDoor
open Go.RowKit
theorem count_one (c : UInt8) : ∀ (fuel : Nat) (l : List UInt8), l.length < fuel → Lib.countFrom [c] fuel l = l.count c
 | 0, l, h => by omega
 | fuel + 1, l, h => by
  rw [Lib.countFrom, Lib.index_one]
  rcases ix_cases l c with ⟨h1, h2⟩ | ⟨i, h1, h2, h3, h4⟩
  ·rw [h1, List.count_eq_zero_of_not_mem h2]
   rfl
  ·have hne : ¬ ((Lib.indexByte l c == -1) = true) := by rw [h1]; simp
   rw [if_neg hne, h1, count_one c fuel _ (by simp; omega)]
   have e : l = l.take i ++ c :: l.drop (i + 1) := by
    have := drop_at h3
    rw [← this, List.take_append_drop]
   have hc : l.count c = (l.take i ++ c :: l.drop (i + 1)).count c := congrArg (List.count c) e
   rw [hc, List.count_append, List.count_eq_zero_of_not_mem h4, List.count_cons_self]
   simp
   omega
theorem rowsP_rel (σ : Sg) (l : List ByteArray) : RelL σ (l.map Value.string) (rowsP l).flatten := by
 have e : (rowsP l).flatten = l.map AV.str := by
  induction l with
  | nil => rfl
  | cons x l ih => simp [rowsP] at ih ⊢; exact ih
 rw [e]
 refine ⟨by simp, fun j v a hv ha => ?_⟩
 rw [List.getElem?_map] at hv ha
 cases h : l[j]? with
 | none => rw [h] at hv; cases hv
 | some x =>
  rw [h] at hv ha
  cases hv; cases ha
  exact .str x
def splB (s : ByteArray) : List ByteArray := Lib.splitB ⟨#[46]⟩ 0 (Lib.countB s ⟨#[46]⟩) s
theorem splB_len (s : ByteArray) : (splB s).length = Lib.countB s ⟨#[46]⟩ + 1 := Lib.splitB_all _ (by decide) _ _ _ rfl
set_option maxRecDepth 100000 in
theorem genSplit_mf (s : ByteArray) (hs : s.size ≤ 1000000) : MF Tryz.prog 127 [.str s, .str ⟨#[46]⟩, .int .i64 0, .int .i64 (-1)] 1 (rowsP (splB s)) := by
 refine ⟨by kernel_rfl, fun σ w vs hh hr hg => ?_⟩
 have hl : vs.length = 4 := hr.1
 obtain ⟨v1, v2, v3, v4, rfl⟩ : ∃ a b c d, vs = [a, b, c, d] := by
  rcases vs with _ | ⟨a, _ | ⟨b, _ | ⟨c, _ | ⟨d, _ | ⟨e, l⟩⟩⟩⟩⟩ <;> simp at hl
  exact ⟨a, b, c, d, rfl⟩
 have h1 : Rel1 σ v1 (.str s) := hr.2 0 v1 _ rfl rfl
 have h2 : Rel1 σ v2 (.str ⟨#[46]⟩) := hr.2 1 v2 _ rfl rfl
 have h3 : Rel1 σ v3 (.int .i64 0) := hr.2 2 v3 _ rfl rfl
 have h4 : Rel1 σ v4 (.int .i64 (-1)) := hr.2 3 v4 _ rfl rfl
 cases h1; cases h2; cases h3; cases h4
 have hcl := Lib.countB_le ⟨#[46]⟩ (by decide) s.size s (Nat.le_refl _)
 have hcnt : ∀ w : World, Calls Tryz.prog 175 #[.string s, .string ⟨#[46]⟩] w fun e w' => e = .returned (.int .i64 (Lib.countB s ⟨#[46]⟩)) ∧ w' = w := fun w => by
  refine (Tryz.strings_Count_one s 46 w).mono ?_
  rintro e w' ⟨rfl, rfl⟩
  refine ⟨?_, rfl⟩
  have := count_one 46 (s.data.toList.length + 1) s.data.toList (Nat.lt_succ_self _)
  rw [show Lib.countB s ⟨#[46]⟩ = Lib.countFrom [46] (s.data.toList.length + 1) s.data.toList from rfl, this]
  rfl
 have hix : ∀ (x : ByteArray) (w : World), Calls Tryz.prog 148 #[.string x, .string ⟨#[46]⟩] w fun e w' => e = .returned (.int .i64 (Lib.indexB x ⟨#[46]⟩)) ∧ w' = w := fun x w => by
  refine (Tryz.strings_Index_one x 46 w).mono ?_
  rintro e w' ⟨rfl, rfl⟩
  refine ⟨?_, rfl⟩
  rw [show Lib.indexB x ⟨#[46]⟩ = Lib.index x.data.toList [46] from rfl, Lib.index_one]
 have hN : ((splB s).length : Int) = min (if (-1 : Int) < 0 then (Lib.countB s ⟨#[46]⟩ : Int) + 1 else -1) ((s.size : Int) + 1) := by
  rw [if_pos (by decide), splB_len]
  omega
 refine (Any.strings_genSplit_core Tryz.lays221 (by kernel_rfl) s ⟨#[46]⟩ 0 (-1) (splB s).length w (by omega) (by decide) (by decide) (fun x c _ => hix x _) (hcnt w) (by decide) (by decide) hN).mono ?_
 rintro e w' ⟨rfl, rfl⟩
 have e1 : Lib.splitB ⟨#[46]⟩ 0 ((splB s).length - 1) s = splB s := by rw [splB_len]; rfl
 rw [e1]
 have hbl : Below w.heap.size w (w.alloc (.cells (Lib.cellsOf (splB s) (splB s).length) 9)) := (Below.refl _ _).alloc (Nat.le_refl _) _
 have hne : 0 < (splB s).length := by rw [splB_len]; omega
 refine ⟨σ, w.heap.size, _, by rw [rowsP_len], Ext.refl _ _, fun b q v hv => (hbl.cell (p := ⟨b, q, none⟩) (World.block_lt_of_cell? w _ (hh _ _ _ hv))).trans (hh _ _ _ hv), hbl, by omega, ?_⟩
 have e2 : Lib.cellsOf (splB s) (splB s).length = ((splB s).map Value.string ++ []).toArray := by simp [Lib.cellsOf]
 rw [e2]
 refine FRowW.new hh (Nat.le_refl _) (e := 9) ?_ ?_ ?_ (by simp) ?_ ?_
 ·exact rowsP_rel σ _
 ·intro c hc
  simp only [rowsP, List.mem_map] at hc
  obtain ⟨x, _, rfl⟩ := hc
  rfl
 ·simp [rowsP_len]
 ·simp
 ·rw [rowsP_len]; exact Nat.le_refl _
theorem rowsP_ok (l : List ByteArray) : RowsOk 1 (rowsP l) := by
 refine ⟨by omega, fun c hc => ?_⟩
 simp only [rowsP, List.mem_map] at hc
 obtain ⟨x, _, rfl⟩ := hc
 exact ⟨rfl, rfl⟩
theorem splitDot_a (s : ByteArray) (hs : s.size ≤ 1000000) : AC Tryz.prog 90 [.str s, .str ⟨#[46]⟩] (.lst .any 1 (rowsP (splB s))) := by
 have h := genSplit_mf s hs
 refine kE Tryz.func90 a_strings_Split_ok a_strings_Split_cb fun E hE => ?_
 refine kW ?_
 refine kQ [.f 1 (rowsP (splB s))] ?_
 refine AK.open2 7 1000010 rfl (by omega) rfl (rowsP_ok _) fun cap2 cs2 hr2 => ?_
 refine AK.fz 1000010 rfl ?_
 refine AK.weak (Weak.intro (L := [(4, .lst .any 1 (rowsP (splB s)))]) (BL := []) ⟨⟨_, rfl, .one (hr2.le rfl)⟩, trivial⟩ trivial rfl rfl (by exact trivial)) ?_
 refine kW ?_
 refine AK.ret ⟨_, rfl, ?_⟩
 rfl
def pathP (s : ByteArray) : List ByteArray × Int := if 16 ≤ (splB s).length then ([], 5) else if (splB s).all wdB = true then (splB s, 0) else ([], 10)
theorem splB_mem {s x : ByteArray} (h : x ∈ splB s) : x.size ≤ s.size := by
 have key : ∀ (k : Nat) (s : ByteArray), ∀ x ∈ Lib.splitB ⟨#[46]⟩ 0 k s, x.size ≤ s.size := by
  intro k
  induction k with
  | zero => intro s x hx; simp [Lib.splitB] at hx; subst hx; exact Nat.le_refl _
  | succ k ih =>
   intro s x hx
   rw [Lib.splitB] at hx
   split at hx
   ·simp at hx; subst hx; exact Nat.le_refl _
   ·rcases List.mem_cons.1 hx with rfl | hx
    ·rw [ByteArray.size_extract]; omega
    ·refine Nat.le_trans (ih _ x hx) ?_
     rw [ByteArray.size_extract]; omega
 exact key _ _ _ h
theorem pathParse_a (s : ByteArray) (hs : s.size ≤ 1000000) : AC Tryz.prog 54 [.str s] (.tup [.lst .any 1 (rowsP (pathP s).1), .int .i64 (pathP s).2]) := by
 have h := splitDot_a s hs
 have hl : (splB s).length ≤ 1000001 := by
  rw [splB_len]
  have := Lib.countB_le ⟨#[46]⟩ (by decide) s.size s (Nat.le_refl _)
  omega
 have hc := pathHas_a (splB s) (by omega) (fun x hx => by have := splB_mem hx; omega)
 refine kE Tryz.func54 a_path_Parse_ok a_path_Parse_cb fun E hE => ?_
 refine kW ?_
 refine kQ [.v (.lst .any 1 (rowsP (splB s)))] ?_
 refine kW ?_
 refine kC (fun hb => ?_) fun hb => ?_
 ·have h16 : 16 ≤ (splB s).length := by simp [rowsP_len] at hb; omega
  refine kW ?_
  refine AK.ret ⟨_, rfl, ?_⟩
  rw [pathP, if_pos h16]
  rfl
 ·have h16 : ¬ 16 ≤ (splB s).length := by simp [rowsP_len] at hb; omega
  refine kW ?_
  refine kQ [.v (.bool (!(splB s).all wdB))] ?_
  refine kC (fun hb => ?_) fun hb => ?_
  ·have ha : ¬ (splB s).all wdB = true := by intro h; rw [h] at hb; cases hb
   refine kW ?_
   refine AK.ret ⟨_, rfl, ?_⟩
   rw [pathP, if_neg h16, if_neg ha]
   rfl
  ·have ha : (splB s).all wdB = true := by
    cases h : (splB s).all wdB with
    | true => rfl
    | false => rw [h] at hb; cases hb
   refine kW ?_
   refine AK.ret ⟨_, rfl, ?_⟩
   rw [pathP, if_neg h16, if_pos ha]
   rfl
def quoP : Option (List UInt8 × List UInt8) → V × Int
 | none => (V.null, 11)
 | some (a, b) => if b = [] then (V.str ⟨a.toArray⟩, 0) else (V.null, 10)
def wordP (s : ByteArray) : V × Int := if (hasB s ⟨#[34]⟩ || hasB s ⟨#[39]⟩) = true then quoP (unq s) else scalP s
theorem valWord_a (s : ByteArray) (hz : s.size ≤ 1000000) : AC Tryz.prog 55 [.str s] (.tup [(vA ((wordP s).1)), .int .i64 (wordP s).2]) := by
 have h1 := has_a s ⟨#[34]⟩
 have h2 := has_a s ⟨#[39]⟩
 have h3 := unquote_a s hz
 have h4 := scal_a s hz
 refine kE Tryz.func55 a_values_Word_ok a_values_Word_cb fun E hE => ?_
 refine kW ?_
 refine kQ [.v (.bool (hasB s ⟨#[34]⟩)), .v (.bool (hasB s ⟨#[39]⟩))] ?_
 refine kC (fun hb => ?_) fun hb => ?_
 ·have hq : wordP s = quoP (unq s) := by rw [wordP, if_pos hb]
  rw [hq]
  generalize unq s = R at *
  cases R with
  | none =>
   refine kW ?_
   refine kQ [.v (qA none)] ?_
   refine kW ?_
   refine kQ [] ?_
   refine kC (fun hb => ?_) fun hb => ?_
   ·simp at hb
   refine kW ?_
   refine kC (fun hb => ?_) fun hb => ?_
   ·refine kW ?_
    refine AK.ret ⟨_, rfl, ?_⟩
    rfl
   ·simp at hb
  | some p =>
   obtain ⟨a, b⟩ := p
   have h5 := treeStr_a ⟨a.toArray⟩
   refine kW ?_
   refine kQ [.v (qA (some (a, b)))] ?_
   refine kW ?_
   refine kQ [] ?_
   by_cases hbn : b = []
   ·subst hbn
    refine kC (fun hb => ?_) fun hb => ?_
    ·simp at hb
    refine kW ?_
    refine kC (fun hb => ?_) fun hb => ?_
    ·simp at hb
    refine kW ?_
    refine kQ [.v ((vA ((V.str ⟨a.toArray⟩))))] ?_
    refine kW ?_
    refine AK.ret ⟨_, rfl, ?_⟩
    rfl
   ·have hbn' : ¬ (ByteArray.mk b.toArray) = ByteArray.mk #[] := fun e => hbn (by injection e with e; simpa using e)
    have hqp : quoP (some (a, b)) = (V.null, 10) := by rw [quoP, if_neg hbn]
    refine kC (fun hb => ?_) fun hb => ?_
    ·refine kW ?_
     refine kC (fun hb => ?_) fun hb => ?_
     ·refine kW ?_
      refine AK.ret ⟨_, rfl, ?_⟩
      rw [hqp]
      rfl
     ·simp at hb
    ·exfalso
     simp [hbn'] at hb
 ·have hq : wordP s = scalP s := by rw [wordP, if_neg (by rw [show (hasB s ⟨#[34]⟩ || hasB s ⟨#[39]⟩) = false from hb]; decide)]
  rw [hq]
  refine kW ?_
  refine kQ [.v (.tup [(vA ((scalP s).1)), .int .i64 (scalP s).2])] ?_
  refine kW ?_
  refine AK.ret ⟨_, rfl, ?_⟩
  rfl
end Go.Proofs.YtnpkejnaeemgjaaGreatDoor
/-
 The value of a word: the document's, walked; it is the program's.
-/
namespace Go.Proofs.YtnpkejnaeemgjaaGreatDoor
open Go.RowKit
theorem strip_a (n : Nat) : ∀ v : V, v.size ≤ n → v.ord → v.size ≤ 1000000 → AC Tryz.prog 83 [(vA (v))] ((vA ((stripN n v)))) := by
 induction n with
 | zero => intro v h; have := v.size_pos; omega
 | succ n ih =>
  intro v hn ho hsz
  have hve := v.size_eq
  have hlm := len_le_sizeM v.m
  have hor := (V.ord_eq v).1 ho
  have hM := treeMap_a [] (by simp [sizeM])
  have hC := clone_ok v (by omega)
  refine kE Tryz.func83 a_layer_strip_ok a_layer_strip_cb fun E hE => ?_
  refine kW ?_
  refine kC (fun hb => ?_) fun hb => ?_
  ·have hk : ¬ v.kind = 5 := by simpa using hb
   have hst : stripN (n + 1) v = v := by rw [stripN, if_neg hk]
   refine kW ?_
   refine kQ [.v ((vA (v)))] ?_
   refine kW ?_
   refine AK.ret ⟨_, rfl, ?_⟩
   rw [hst]
   rfl
  ·have hk : v.kind = 5 := by simpa using hb
   have hst : stripN (n + 1) v = vMap (stripM (stripN n) v.m) := by rw [stripN, if_pos hk]
   refine kW ?_
   refine kQ [.v ((vA ((vMap []))))] ?_
   refine kW ?_
   refine AK.loopI (fun k : Nat => (frOf [(1, .ptr 1 0), (2, .ptr 2 0), (3, .ptr 3 0), (13, .lst .any 7 (rowsM v.m)), (14, .int .i64 (rowsM v.m).length), (15, .int .i64 k)], ⟨boxOf [(1, (vC (v)), false), (2, [.int .i64 0, .bool false, .int .i64 0, .str ⟨#[]⟩, .lst .nil 6 [], .lst .nil 7 []], false), (3, (vC ((vMap (stripM (stripN n) (v.m.take k))))), false)], fun _ => 0⟩)) (fun k => k ≤ v.m.length) (fun k => v.m.length - k) 0 (by omega) (Weak.intro ⟨kI, kI, kI, kI, kI, kI, trivial⟩ ⟨kJ, kJ, kJ, trivial⟩ rfl rfl) fun k hk => ?_
   refine kW ?_
   refine kC (fun hb => ?_) fun hb => ?_
   ·have hlt : k < v.m.length := by simpa [rowsM_len] using hb
    obtain ⟨⟨y, x⟩, hg⟩ : ∃ x, v.m[k]? = some x := ⟨_, List.getElem?_eq_getElem hlt⟩
    have hxs := mem_sizeM (List.mem_of_getElem? hg)
    simp only at hxs
    have hxo := hor.2.2.2 _ (List.mem_of_getElem? hg)
    have hts := stripM_take (f := stripN n) hg
    refine kW ?_
    refine kP [.c (.str y :: (vC (x)))] ?_ ?_
    ·((repeat' apply And.intro) <;> first | exact kD | (intro hgd; refine ⟨?_, kG⟩; (repeat' apply And.intro) <;> first | exact kD | skip) | skip)
     ·exact rowsM_at hg
    refine kW ?_
    refine kC (fun hb => ?_) fun hb => ?_
    ·have hx0 : ¬ x.kind = 0 := by simpa using hb
     have hin : ∀ p ∈ v.m, (stripN n p.2).ord ∧ (stripN n p.2).size ≤ p.2.size := fun p hp => by
      have := mem_sizeM (p := p) hp
      exact strip_facts n p.2 (by omega) (hor.2.2.2 p hp)
     have hro : (vMap (stripM (stripN n) (v.m.take k))).ord := by
      refine vMap_ord (stripM_rises (List.Pairwise.sublist (List.take_sublist _ _) hor.2.2.1)) fun q hq => ?_
      obtain ⟨z, hz, e⟩ := stripM_mem hq
      rw [e]; exact (hin _ (List.mem_of_mem_take hz)).1
     have hsz1 := stripM_size (f := stripN n) (m := v.m.take k) fun p hp => (hin p (List.mem_of_mem_take hp)).2
     have hsz2 := sizeM_take_le v.m k
     have hsz3 := (strip_facts n x (by omega) hxo).2
     have hlast : minsert y (stripN n x) (stripM (stripN n) (v.m.take k)) = stripM (stripN n) (v.m.take k) ++ [(y, stripN n x)] := by
      refine minsert_last fun p hp => ?_
      obtain ⟨z, hz, _⟩ := stripM_mem hp
      obtain ⟨j, hj⟩ := List.getElem?_of_mem hz
      have hjk : j < k := by
       have := (List.getElem?_eq_some_iff.1 hj).1
       rw [List.length_take] at this; omega
      rw [List.getElem?_take, if_pos hjk] at hj
      obtain ⟨q1, e1⟩ := List.getElem?_eq_some_iff.1 hj
      obtain ⟨q2, e2⟩ := List.getElem?_eq_some_iff.1 hg
      have := List.pairwise_iff_getElem.1 hor.2.2.1 j k q1 q2 hjk
      rw [e1, e2] at this
      exact this
     have hP := treePut_o (vMap (stripM (stripN n) (v.m.take k))) y (stripN n x) hro (by rw [vMap_size]; omega)
     rw [show (vMap (stripM (stripN n) (v.m.take k))).m = stripM (stripN n) (v.m.take k) from rfl, hlast] at hP
     have hI := ih x (by omega) hxo (by omega)
     refine kW ?_
     refine kQ [.v ((vA ((stripN n x)))), .v ((vA ((vMap (stripM (stripN n) (v.m.take k) ++ [(y, stripN n x)])))))] ?_
     refine kW ?_
     exact AK.lp ⟨k + 1, by omega, Weak.intro ⟨kI, kI, kI, kI, kI, kU, trivial⟩ ⟨kJ, kJ, ⟨_, rfl, leL_of_eq (by rw [hts, if_neg hx0])⟩, trivial⟩ rfl rfl, by omega⟩
    ·have hx0 : x.kind = 0 := by simpa using hb
     refine kW ?_
     exact AK.lp ⟨k + 1, by omega, Weak.intro ⟨kI, kI, kI, kI, kI, kU, trivial⟩ ⟨kJ, kJ, ⟨_, rfl, leL_of_eq (by rw [hts, if_pos hx0, List.append_nil])⟩, trivial⟩ rfl rfl, by omega⟩
   ·have hlt : k = v.m.length := by have : v.m.length ≤ k := by simpa [rowsM_len] using hb
                                    omega
    subst hlt
    rw [List.take_length]
    refine AK.exit rfl ?_
    refine kW ?_
    refine AK.ret ⟨_, rfl, ?_⟩
    rw [hst]
    rfl
theorem rowsP_tail (s : ByteArray) (l : List ByteArray) (n : Nat) (h : n = (rowsP (s :: l)).length) : ((rowsP (s :: l)).take n).drop 1 = rowsP l := by
 subst h
 rw [List.take_length]
 rfl
theorem pathPut_a (x : V) (hx : x.size ≤ 1000000) (hxo : x.ord) : ∀ (l : List ByteArray) (v : V), l.length ≤ 1000 → (v = V.null ∨ v = vMap []) → l ≠ [] ∨ v = V.null → AC Tryz.prog 56 [(vA (v)), (vA (x)), .lst .any 1 (rowsP l)] ((vA ((nest x l)))) := by
 intro l
 induction l with
 | nil =>
  intro v _ hv _
  have hC := clone_ok x (by omega)
  refine kE Tryz.func56 a_path_Put_ok a_path_Put_cb fun E hE => ?_
  refine kW ?_
  refine kC (fun hb => ?_) fun hb => ?_
  ·refine kW ?_
   refine kQ [.v ((vA (x)))] ?_
   refine kW ?_
   refine AK.ret ⟨_, rfl, ?_⟩
   rfl
  ·simp [rowsP] at hb
 | cons s l ih =>
  intro v hl hv _
  have hpl : (rowsP (s :: l)).length = l.length + 1 := by simp [rowsP]
  have hl' : l.length ≤ 1000 := by simp at hl; omega
  have hvo : v.ord := by
   rcases hv with rfl | rfl
   ·exact null_ord
   ·exact vMap_ord List.Pairwise.nil (fun p h => by cases h)
  have hvm : v.m = [] := by rcases hv with rfl | rfl <;> rfl
  have hvs : v.size = 1 := by rw [V.size_eq, hvm]; rcases hv with rfl | rfl <;> rfl
  have hG := treeGet_o v s hvo (by omega)
  rw [show mfind s v.m = none by rw [hvm]; rfl] at hG
  have hI := ih V.null hl' (.inl rfl) (.inr rfl)
  have hns := nest_size x l
  have hP := treePut_o v s (nest x l) hvo (by omega)
  rw [show minsert s (nest x l) v.m = [(s, nest x l)] by rw [hvm]; rfl] at hP
  refine kE Tryz.func56 a_path_Put_ok a_path_Put_cb fun E hE => ?_
  refine kW ?_
  refine kC (fun hb => ?_) fun hb => ?_
  ·simp [rowsP] at hb <;> omega
  refine kW ?_
  refine kQ [.c [.str s], .v (.tup [(vA (V.null)), .bool false])] ?_
  refine kW ?_
  refine kP [.c [.str s], .v ((vA ((nest x l)))), .v ((vA ((nest x (s :: l)))))] ?_ ?_
  ·((repeat' apply And.intro) <;> first | exact kD | (intro hgd; refine ⟨?_, kG⟩; (repeat' apply And.intro) <;> first | exact kD | skip) | skip)
   ·rw [show List.drop (Int.toNat 1) (List.take ((rowsP (s :: l)).length : Int).toNat (rowsP (s :: l))) = rowsP l from rowsP_tail s l _ (by simp)]; exact hI
  refine kW ?_
  refine AK.ret ⟨_, rfl, ?_⟩
  rfl
end Go.Proofs.YtnpkejnaeemgjaaGreatDoor
/-
 A value laid over another one: layer.Over and the document's, walked.
-/
namespace Go.Proofs.YtnpkejnaeemgjaaGreatDoor
open Go.RowKit
def DropOk : Prop := ∀ (m : List (ByteArray × V)) (key : ByteArray), Rises m → sizeM m ≤ 4000000 → AC Tryz.prog 84 [(vA ((vMap m))), .str key] ((vA ((vMap (fdrop key m)))))
theorem over_a (hD : DropOk) (n : Nat) : ∀ a b : V, b.size ≤ n → a.ord → b.ord → a.size + 2 * b.size ≤ 4000000 → b.size ≤ 1000000 → AC Tryz.prog 46 [(vA (a)), (vA (b))] ((vA ((overN n a b)))) := by
 induction n with
 | zero => intro a b h; have := b.size_pos; omega
 | succ n ih =>
  intro a b hn ha hb0 hsz hbz
  have hae := a.size_eq
  have hbe := b.size_eq
  have hlb := len_le_sizeM b.m
  have hao := (V.ord_eq a).1 ha
  have hbo := (V.ord_eq b).1 hb0
  by_cases hk : a.kind = 5 ∧ b.kind = 5
  ·have hst : overN (n + 1) a b = vMap (foldO (overN n) a.m b.m) := by rw [overN, if_pos hk, foldO_merge _ _ _ (Nat.le_refl _) hao.2.2.1 hbo.2.2.1]
   have hav := hao.1 hk.1
   have hC := clone_ok a (by omega)
   rw [hst]
   refine kE Tryz.func46 a_layer_Over_ok a_layer_Over_cb fun E hE => ?_
   refine kW ?_
   refine kQ [] ?_
   refine kC (fun hb => ?_) fun hb => ?_
   ·exfalso
    simp [hk.1, hk.2] at hb
   refine kW ?_
   refine kQ [.v ((vA (a)))] ?_
   refine kW ?_
   refine AK.loopI (fun k : Nat => (frOf [(2, .ptr 2 0), (3, .ptr 3 0), (4, .ptr 4 0), (5, .ptr 5 0), (23, .lst .any 7 (rowsM b.m)), (24, .int .i64 (rowsM b.m).length), (25, .int .i64 k)], ⟨boxOf [(2, (vC (a)), false), (3, (vC (b)), false), (4, [.int .i64 0, .bool false, .int .i64 0, .str ⟨#[]⟩, .lst .nil 6 [], .lst .nil 7 []], false), (5, (vC ((vMap (foldO (overN n) a.m (b.m.take k))))), false)], fun _ => 0⟩)) (fun k => k ≤ b.m.length) (fun k => b.m.length - k) 0 (by omega) (Weak.intro ⟨kI, kI, kI, kI, kI, kI, kI, trivial⟩ ⟨kJ, kJ, kJ, ⟨_, rfl, leL_of_eq (by rw [List.take_zero, show foldO (overN n) a.m [] = a.m from rfl, ← hav])⟩, trivial⟩ rfl rfl) fun k hk2 => ?_
   obtain ⟨hfr, hfo, hfs⟩ := foldO_le (n := n) k hn ha hb0
   generalize hF : foldO (overN n) a.m (b.m.take k) = F at *
   refine kW ?_
   refine kC (fun hb => ?_) fun hb => ?_
   ·have hlt : k < b.m.length := by simpa [rowsM_len] using hb
    obtain ⟨⟨y, x⟩, hg⟩ : ∃ x, b.m[k]? = some x := ⟨_, List.getElem?_eq_getElem hlt⟩
    have hxs := mem_sizeM (List.mem_of_getElem? hg)
    simp only at hxs
    have hxo := hbo.2.2.2 _ (List.mem_of_getElem? hg)
    have hts := foldO_take (f := overN n) (a := a.m) hg
    rw [hF] at hts
    refine kW ?_
    refine kP [.c (.str y :: (vC (x)))] ?_ ?_
    ·((repeat' apply And.intro) <;> first | exact kD | (intro hgd; refine ⟨?_, kG⟩; (repeat' apply And.intro) <;> first | exact kD | skip) | skip)
     ·exact rowsM_at hg
    refine kW ?_
    refine kC (fun hb => ?_) fun hb => ?_
    ·have hx0 : x.kind = 0 := by simpa using hb
     have hDr := hD F y hfr (by omega)
     have hts2 : foldO (overN n) a.m (b.m.take (k + 1)) = fdrop y F := by rw [hts, stepO, if_pos hx0]
     refine kW ?_
     refine kQ [.v ((vA ((vMap (fdrop y F)))))] ?_
     refine AK.exit rfl ?_
     refine kW ?_
     exact AK.lp ⟨k + 1, by omega, Weak.intro ⟨kI, kI, kI, kI, kI, kI, kU, trivial⟩ ⟨kJ, kJ, kJ, ⟨_, rfl, leL_of_eq (by rw [hts2])⟩, trivial⟩ rfl rfl, by omega⟩
    ·have hx0 : ¬ x.kind = 0 := by simpa using hb
     have hts2 : foldO (overN n) a.m (b.m.take (k + 1)) = minsert y (overN n ((mfind y F).getD V.null) x) F := by rw [hts, stepO, if_neg hx0]
     have hFo : (vMap F).ord := vMap_ord hfr hfo
     have hFs := vMap_size F
     have hG := treeGet_o (vMap F) y hFo (by omega)
     rw [show (vMap F).m = F from rfl] at hG
     generalize (mfind y F).isSome = f at hG
     have huo := was_ord hfo y
     have hus : ((mfind y F).getD V.null).size ≤ a.size := by
      rw [← hF, foldO_other _ _ hao.2.2.1 (take_ne hbo.2.2.1 hg)]
      cases hm : mfind y a.m with
      | none => simp only [Option.getD_none, null_size]; omega
      | some u =>
       have := mem_sizeM (mfind_in hm)
       simp only [Option.getD_some] at this ⊢
       omega
     generalize hU : (mfind y F).getD V.null = u at *
     have hof := over_facts n u x (by omega) huo hxo
     have hI := ih u x (by omega) huo hxo (by omega) (by omega)
     have hP := treePut_o (vMap F) y (overN n u x) hFo (by omega)
     refine kW ?_
     refine kQ [.v (.tup [(vA (u)), .bool f])] ?_
     refine kW ?_
     refine kQ [.v ((vA ((overN n u x)))), .v ((vA ((vMap (minsert y (overN n u x) F)))))] ?_
     refine kW ?_
     exact AK.lp ⟨k + 1, by omega, Weak.intro ⟨kI, kI, kI, kI, kI, kI, kU, trivial⟩ ⟨kJ, kJ, kJ, ⟨_, rfl, leL_of_eq (by rw [hts2])⟩, trivial⟩ rfl rfl, by omega⟩
   ·have hlt : k = b.m.length := by have : b.m.length ≤ k := by simpa [rowsM_len] using hb
                                    omega
    subst hlt
    rw [List.take_length] at hF
    refine AK.exit rfl ?_
    refine kW ?_
    refine AK.ret ⟨_, rfl, ?_⟩
    rw [hF]
    rfl
  ·have hst : overN (n + 1) a b = stripN (n + 1) b := by rw [overN, if_neg hk]
   have hS := strip_a (n + 1) b hn hb0 hbz
   rw [hst]
   refine kE Tryz.func46 a_layer_Over_ok a_layer_Over_cb fun E hE => ?_
   refine kW ?_
   refine kQ [] ?_
   refine kC (fun hb => ?_) fun hb => ?_
   ·refine kW ?_
    refine kQ [.v ((vA ((stripN (n + 1) b))))] ?_
    refine kW ?_
    refine AK.ret ⟨_, rfl, ?_⟩
    rfl
   ·exfalso
    simp at hb
    exact hk hb
end Go.Proofs.YtnpkejnaeemgjaaGreatDoor
