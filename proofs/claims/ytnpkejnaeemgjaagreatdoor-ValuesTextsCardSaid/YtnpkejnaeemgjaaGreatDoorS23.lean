/-
  The texts that the claim wants, one behind the other: part 23.
-/
import Derived.Test.YtnpkejnaeemgjaaGreatDoorS22
set_option linter.unusedSimpArgs false
set_option linter.unusedVariables false
namespace Go.Proofs.YtnpkejnaeemgjaaGreatDoor
open Go.RowKit
theorem toB_eta (s : ByteArray) : toB s.data.toList = s := rfl
theorem toB_list (l : Bs) : (toB l).data.toList = l := rfl
theorem toB_size (l : Bs) : (toB l).size = l.length := rfl
theorem toB_at {l : Bs} {k : Nat} {c : UInt8} (h : l[k]? = some c) : (toB l).data.getD k 0 = c := by
 have := (List.getElem?_eq_some_iff.1 h)
 obtain ⟨h1, h2⟩ := this
 rw [Array.getD, dif_pos (show k < (toB l).data.size from h1)]
 exact h2
theorem toB_ext (l : Bs) (a b : Nat) (h : b ≤ l.length) : (toB l).extract a b = toB ((l.take b).drop a) := by
 apply ByteArray.ext
 apply Array.toList_inj.1
 rw [ByteArray.data_extract]
 simp [toB, List.extract_eq_take_drop]
 rw [List.drop_take]
theorem toB_to (l : Bs) (b : Nat) (h : b ≤ l.length) : (toB l).extract 0 b = toB (l.take b) := by rw [toB_ext l 0 b h]; rfl
theorem toB_from (l : Bs) (a : Nat) : (toB l).extract a (toB l).size = toB (l.drop a) := by
 rw [toB_size, toB_ext l a _ (Nat.le_refl _), List.take_length]
theorem toB_inj {a b : Bs} : toB a = toB b ↔ a = b := ⟨fun h => by have := congrArg (fun x => x.data.toList) h; exact this, fun h => by rw [h]⟩
theorem AC.of2 {f : FuncId} {x y : ByteArray} {v : Value} {r : AV} (hcb : callable Tryz.prog f = true) (hr : ∀ σ, RelR σ v r) (h : ∀ w, GW w → Calls Tryz.prog f #[.string x, .string y] w fun e w' => e = .returned v ∧ w' = w) : AC Tryz.prog f [.str x, .str y] r := by
 refine ⟨hcb, fun σ w vs hh hrs hg => ?_⟩
 obtain ⟨v1, v2, rfl, h1, h2⟩ := two_args hrs
 have h1 : Rel1 σ v1 (.str x) := h1
 have h2 : Rel1 σ v2 (.str y) := h2
 cases h1; cases h2
 refine (h w hg).mono ?_
 rintro e w' ⟨rfl, rfl⟩
 exact ⟨σ, _, rfl, Ext.refl _ _, hh, Below.refl _ _, hr σ⟩
theorem tl_a (l : Bs) : AC Tryz.prog 115 [.str (toB l), .str ⟨#[32]⟩] (.str (toB (tl l))) := AC.of2 (by kernel_rfl) (fun _ => Rel1.str _) fun w _ => Tryz.strings_TrimLeft_one (toB l) 32 (by decide) w
theorem tr_a (l : Bs) (hl : l.length ≤ 1000000) : AC Tryz.prog 113 [.str (toB l), .str ⟨#[32]⟩] (.str (toB (tr l))) := AC.of2 (by kernel_rfl) (fun _ => Rel1.str _) fun w _ => Tryz.strings_TrimRight_one (toB l) 32 (by decide) w (by show l.length ≤ _; omega)
theorem suff_a (l p : Bs) (hl : l.length ≤ 1000000) : AC Tryz.prog 151 [.str (toB l), .str (toB p)] (.bool (Lib.hasSuffix l p)) := AC.of2 (by kernel_rfl) (fun _ => Rel1.bool _) fun w _ => Tryz.strings_HasSuffix (toB l) (toB p) w (by show l.length ≤ _; omega)
theorem index_a (l p : Bs) (hl : l.length ≤ 1000000) : AC Tryz.prog 148 [.str (toB l), .str (toB p)] (.int .i64 (Lib.index l p)) := AC.of2 (by kernel_rfl) (fun _ => Rel1.int _ _) fun w hg => by
 obtain ⟨m, hm⟩ := hg.num 0 (by simp [globZ])
 exact Tryz.strings_Index (toB l) (toB p) m w (by show l.length < _; omega) hm
theorem contains_a (l p : Bs) (hl : l.length ≤ 1000000) : AC Tryz.prog 170 [.str (toB l), .str (toB p)] (.bool (Lib.contains l p)) := AC.of2 (by kernel_rfl) (fun _ => Rel1.bool _) fun w hg => by
 obtain ⟨m, hm⟩ := hg.num 0 (by simp [globZ])
 exact Tryz.strings_Contains (toB l) (toB p) m w (by show l.length < _; omega) hm
theorem ixB_a (l : Bs) (c : UInt8) : AC Tryz.prog 109 [.str (toB l), .int .u8 c.toNat] (.int .i64 (Lib.indexByte l c)) := by
 have h := indexByte_a (toB l) c.toNat
 rw [show ((c.toNat : Int).toNat).toUInt8 = c by simp] at h
 exact h
theorem ix_mem (l : Bs) (c : UInt8) : decide (0 ≤ Lib.indexByte l c) = l.contains c := by
 rw [Bool.eq_iff_iff, decide_eq_true_eq, List.contains_iff_mem]
 rcases ixT_cases l c with ⟨h1, h2⟩ | ⟨i, h1, h2, h3, h4⟩
 ·rw [h1]; exact ⟨fun h => absurd h (by omega), fun h => absurd h h2⟩
 ·rw [h1]; exact ⟨fun _ => List.mem_of_getElem? h3, fun _ => by omega⟩
theorem has_toB (l p : Bs) : hasB (toB l) (toB p) = p.isPrefixOf l := by
 rw [Bool.eq_iff_iff, hasB, Bool.and_eq_true, decide_eq_true_eq, decide_eq_true_eq, List.isPrefixOf_iff_prefix, toB_size, toB_size]
 constructor
 ·rintro ⟨h1, h2⟩
  rw [toB_to l _ h1, toB_inj] at h2
  rw [← h2]
  exact List.take_prefix _ _
 ·intro h
  refine ⟨h.length_le, ?_⟩
  rw [toB_to l _ h.length_le, toB_inj]
  exact (List.prefix_iff_eq_take.1 h).symm
theorem has1_toB (l : Bs) (c : UInt8) : hasB (toB l) ⟨#[c]⟩ = (match l with | [] => false | d :: _ => d == c) := by
 rw [show (⟨#[c]⟩ : ByteArray) = toB [c] from rfl, has_toB]
 cases l with
 | nil => rfl
 | cons d l => simp [List.isPrefixOf, eq_comm (a := c), BEq.comm (a := c)]
theorem item_a (l : Bs) : AC Tryz.prog 117 [.str (toB l)] (.bool (isItem l)) := by
 have h := has_a (toB l) (toB [45, 32])
 rw [has_toB] at h
 have e : decide (toB l = ⟨#[45]⟩) = (l == [45]) := by
  rw [show (⟨#[45]⟩ : ByteArray) = toB [45] from rfl, Bool.eq_iff_iff, decide_eq_true_eq, toB_inj, beq_iff_eq]
 refine kE Tryz.func117 a_yaml_item_ok a_yaml_item_cb fun E hE => ?_
 refine kW ?_
 refine kQ [.v (.bool ([45, 32].isPrefixOf l))] ?_
 refine kW ?_
 refine AK.ret ⟨_, rfl, ?_⟩
 rw [e]
 rfl
theorem odd_a (l : Bs) : AC Tryz.prog 165 [.str (toB l)] (.bool (oddL l)) := by
 cases l with
 | nil =>
  have h := ixB_a ([91, 93, 123, 125, 44, 38, 42, 33, 124, 62, 37, 64, 35, 63, 58, 34, 39, 96] : Bs) 0
  refine kE Tryz.func165 a_yaml_odd_ok a_yaml_odd_cb fun E hE => ?_
  refine kW ?_
  refine kQ [.v (.int .i64 0)] ?_
  refine kW ?_
  refine AK.ret ⟨_, rfl, ?_⟩
  rfl
 | cons c l =>
  have h := ixB_a ([91, 93, 123, 125, 44, 38, 42, 33, 124, 62, 37, 64, 35, 63, 58, 34, 39, 96] : Bs) c
  have hm := ix_mem ([91, 93, 123, 125, 44, 38, 42, 33, 124, 62, 37, 64, 35, 63, 58, 34, 39, 96] : Bs) c
  have hne : decide (toB (c :: l) = ⟨#[]⟩) = false := by
   rw [show (⟨#[]⟩ : ByteArray) = toB [] from rfl, decide_eq_false_iff_not, toB_inj]
   simp
  have hat : (toB (c :: l)).data.getD (0 : Int).toNat 0 = c := toB_at (k := 0) rfl
  have hsz : (0 : Int) < (toB (c :: l)).size := by rw [toB_size, List.length_cons]; omega
  refine kE Tryz.func165 a_yaml_odd_ok a_yaml_odd_cb fun E hE => ?_
  refine kW ?_
  refine kQ [.v (.int .i64 (Lib.indexByte ([91, 93, 123, 125, 44, 38, 42, 33, 124, 62, 37, 64, 35, 63, 58, 34, 39, 96] : Bs) c))] ?_
  refine kW ?_
  refine AK.ret ⟨_, rfl, ?_⟩
  rw [hne]
  exact congrArg AV.bool hm
theorem isQ_eq (c : UInt8) : (decide ((c.toNat : Int) = 34) || decide ((c.toNat : Int) = 39)) = isQ c := by
 have e : ∀ n : Nat, n < 256 → (decide ((c.toNat : Int) = n)) = (c == n.toUInt8) := fun n hn => by
  rw [Bool.eq_iff_iff, decide_eq_true_eq, beq_iff_eq, ← UInt8.toNat_inj]
  simp [Nat.mod_eq_of_lt hn]
  omega
 rw [show ((34 : Int)) = ((34 : Nat) : Int) from rfl, show ((39 : Int)) = ((39 : Nat) : Int) from rfl, e 34 (by omega), e 39 (by omega)]
 rfl
theorem byteEq (c : UInt8) (n : Nat) (hn : n < 256) : decide ((c.toNat : Int) = (n : Int)) = (c == n.toUInt8) := by
 rw [Bool.eq_iff_iff, decide_eq_true_eq, beq_iff_eq, ← UInt8.toNat_inj]
 simp [Nat.mod_eq_of_lt hn]
 omega
theorem opens_a (l : Bs) (i : Nat) (c : UInt8) (hi : l[i]? = some c) (hl : l.length ≤ 1000000) : AC Tryz.prog 161 [.str (toB l), .int .i64 i] (.bool (isQ c && openB (prevL l i))) := by
 have hlt := (List.getElem?_eq_some_iff.1 hi).1
 have hat : (toB l).data.getD (i : Int).toNat 0 = c := toB_at (by simpa using hi)
 have hsz : (i : Int) < (toB l).size := by rw [toB_size]; omega
 have hq := isQ_eq c
 rcases i with _ | i
 ·have h := ixB_a ([32, 91, 123, 44] : Bs) c
  refine kE Tryz.func161 a_yaml_opens_ok a_yaml_opens_cb fun E hE => ?_
  refine kW ?_
  refine kP [.v (.int .i64 0)] ?_ ?_
  ·((repeat' apply And.intro) <;> first | exact kD | (intro hgd; refine ⟨?_, kG⟩; (repeat' apply And.intro) <;> first | exact kD | skip) | skip)
   all_goals (exfalso; simp [gd] at hgd)
  refine kW ?_
  refine AK.ret ⟨_, rfl, ?_⟩
  refine congrArg AV.bool ?_
  rw [hat]
  rw [hq]
  rfl
 ·obtain ⟨d, hd⟩ : ∃ d, l[i]? = some d := ⟨_, List.getElem?_eq_getElem (by omega)⟩
  have h := ixB_a ([32, 91, 123, 44] : Bs) d
  have hm := ix_mem ([32, 91, 123, 44] : Bs) d
  have hw : IntKind.i64.wrap (((i + 1 : Nat) : Int) - 1) = (i : Int) := by rw [wrap_in (by omega) (by omega)]; omega
  have hat2 : (toB l).data.getD (IntKind.i64.wrap (((i + 1 : Nat) : Int) - 1)).toNat 0 = d := by rw [hw]; exact toB_at (by simpa using hd)
  refine kE Tryz.func161 a_yaml_opens_ok a_yaml_opens_cb fun E hE => ?_
  refine kW ?_
  refine kP [.v (.int .i64 (Lib.indexByte ([32, 91, 123, 44] : Bs) d))] ?_ ?_
  ·((repeat' apply And.intro) <;> first | exact kD | (intro hgd; refine ⟨?_, kG⟩; (repeat' apply And.intro) <;> first | exact kD | skip) | skip)
   all_goals first | (rw [hw]; omega) | (rw [hat2]; exact h) | skip
  refine kW ?_
  refine AK.ret ⟨_, rfl, ?_⟩
  refine congrArg AV.bool ?_
  rw [hat, hq]
  have h0 : decide (((i + 1 : Nat) : Int) = 0) = false := by rw [decide_eq_false_iff_not]; omega
  rw [h0]
  have hp : prevL l (i + 1) = some d := by rw [prevL, if_neg (by omega)]; exact hd
  rw [hp]
  simp only [Bool.false_or]
  congr 1
  show decide (0 ≤ _) = _
  rw [hm]
  simp only [openB, List.contains, List.elem]
  cases d == 32 <;> cases d == 91 <;> cases d == 123 <;> cases d == 44 <;> rfl
end Go.Proofs.YtnpkejnaeemgjaaGreatDoor
/-
 yaml.bare, split, lines: walked.
-/
namespace Go.Proofs.YtnpkejnaeemgjaaGreatDoor
open Go.RowKit
theorem ne_toB (l : Bs) : decide (toB l = ⟨#[]⟩) = l.isEmpty := by
 rw [show (⟨#[]⟩ : ByteArray) = toB [] from rfl, Bool.eq_iff_iff, decide_eq_true_eq, toB_inj, List.isEmpty_iff]
theorem toB_fromI (l : Bs) (i : Nat) : (toB l).extract (i : Int).toNat ((toB l).size : Int).toNat = toB (l.drop i) := toB_from l i
theorem toB_toI (l : Bs) (i : Nat) (h : i ≤ l.length) : (toB l).extract (0 : Int).toNat (i : Int).toNat = toB (l.take i) := toB_to l i h
theorem drop_cons {l : Bs} {i : Nat} {c : UInt8} (h : l[i]? = some c) : l.drop i = c :: l.drop (i + 1) := by
 rw [List.drop_eq_getElem_cons (List.getElem?_eq_some_iff.1 h).1, (List.getElem?_eq_some_iff.1 h).2]
theorem hash_b (l : Bs) (i : Nat) (c : UInt8) (hi : l[i]? = some c) (hl : l.length ≤ 1000000) :
  (decide ((((toB l).data.getD (i : Int).toNat 0).toNat : Int) = 35) && (decide ((i : Int) = 0) || decide ((((toB l).data.getD (IntKind.i64.wrap ((i : Int) - 1)).toNat 0).toNat : Int) = 32))) = (c == 35 && blankB (prevL l i)) := by
 have hlt := (List.getElem?_eq_some_iff.1 hi).1
 have hat : (toB l).data.getD (i : Int).toNat 0 = c := toB_at (by simpa using hi)
 rw [hat, show (35 : Int) = ((35 : Nat) : Int) from rfl, byteEq c 35 (by omega)]
 congr 1
 rcases i with _ | i
 ·rfl
 ·obtain ⟨d, hd⟩ : ∃ d, l[i]? = some d := ⟨_, List.getElem?_eq_getElem (by omega)⟩
  have hw : IntKind.i64.wrap (((i + 1 : Nat) : Int) - 1) = (i : Int) := by rw [wrap_in (by omega) (by omega)]; omega
  have hat2 : (toB l).data.getD (IntKind.i64.wrap (((i + 1 : Nat) : Int) - 1)).toNat 0 = d := by rw [hw]; exact toB_at (by simpa using hd)
  have h0 : decide (((i + 1 : Nat) : Int) = 0) = false := by rw [decide_eq_false_iff_not]; omega
  have hp : prevL l (i + 1) = some d := by rw [prevL, if_neg (by omega)]; exact hd
  rw [h0, hat2, hp, show (32 : Int) = ((32 : Nat) : Int) from rfl, byteEq d 32 (by omega)]
  rfl
theorem ybare_a (l : Bs) (hl : l.length ≤ 1000000) : AC Tryz.prog 114 [.str (toB l)] (.str (toB (bareL l))) := by
 have hu := fun k => unquote_a (toB (l.drop k)) (by rw [toB_size, List.length_drop]; omega)
 refine kE Tryz.func114 a_yaml_bare_ok a_yaml_bare_cb fun E hE => ?_
 refine kW ?_
 refine AK.loopI (fun i : Nat => (frOf [(0, .str (toB l)), (3, .int .i64 i)], ⟨boxOf [], fun _ => 0⟩)) (fun i => i ≤ l.length ∧ ∃ n, l.length < n + i ∧ bareE l n i = bareE l (l.length + 1) 0) (fun i => l.length - i) 0 ⟨by omega, l.length + 1, by omega, rfl⟩ (Weak.intro ⟨kI, kI, trivial⟩ trivial rfl rfl) fun i ⟨hi, n, hn, hE⟩ => ?_
 refine kW ?_
 refine kC (fun hb => ?_) fun hb => ?_
 ·have hlt : i < l.length := by simpa [toB_size] using hb
  obtain ⟨c, hc⟩ : ∃ c, l[i]? = some c := ⟨_, List.getElem?_eq_getElem hlt⟩
  have hh := hash_b l i c hc hl
  have hop := opens_a l i c hc hl
  obtain ⟨n, rfl⟩ : ∃ m, n = m + 1 := ⟨n - 1, by omega⟩
  rw [bareE, drop_cons hc] at hE
  simp only at hE
  have hsz : (i : Int) < (toB l).size := by rw [toB_size]; omega
  refine kW ?_
  refine kP [] ?_ ?_
  ·((repeat' apply And.intro) <;> first | exact kD | (intro hgd; refine ⟨?_, kG⟩; (repeat' apply And.intro) <;> first | exact kD | skip) | skip)
   all_goals first
    | (rw [toB_size]; omega)
    | (have h0 : ¬ (i : Int) = 0 := by
         intro h0
         simp [gd, h0] at hgd
       rw [wrap_in (by omega) (by omega)]
       first | omega | (rw [toB_size]; omega))
  refine kC (fun hb => ?_) fun hb => ?_
  ·rw [hh] at hb
   rw [if_pos hb] at hE
   refine kW ?_
   refine kP [] ?_ ?_
   ·((repeat' apply And.intro) <;> first | exact kD | (intro hgd; refine ⟨?_, kG⟩; (repeat' apply And.intro) <;> first | exact kD | skip) | skip)
    all_goals (rw [toB_size]; omega)
   refine kW ?_
   refine AK.ret ⟨_, rfl, ?_⟩
   have e : (toB l).extract (0 : Int).toNat (i : Int).toNat = toB (bareL l) := by
    rw [bareL, ← hE]
    exact toB_to l i hi
   rw [e]
   rfl
  ·rw [hh] at hb
   rw [if_neg (by rw [hb]; simp)] at hE
   refine kW ?_
   refine kQ [.v (.bool (isQ c && openB (prevL l i)))] ?_
   refine kC (fun hb => ?_) fun hb => ?_
   ·rw [if_pos hb] at hE
    have hu2 := hu i
    rw [unq_eq, toB_list, drop_cons hc] at hu2
    cases hq : unqL (c :: l.drop (i + 1)) with
    | none =>
     rw [hq] at hE hu2
     simp only [qA] at hE hu2
     refine kW ?_
     refine kP [.v (.tup [.str ⟨#[]⟩, .str ⟨#[]⟩, .int .i64 11])] ?_ ?_
     ·((repeat' apply And.intro) <;> first | exact kD | (intro hgd; refine ⟨?_, kG⟩; (repeat' apply And.intro) <;> first | exact kD | skip) | skip)
      all_goals first | (rw [toB_size]; omega) | skip
      rw [toB_fromI, drop_cons hc]
      exact hu2
     refine kW ?_
     refine kC (fun hb => ?_) fun hb => ?_
     ·refine kW ?_
      refine AK.ret ⟨_, rfl, ?_⟩
      rw [bareL, ← hE, List.take_length]
      rfl
     ·simp at hb
    | some p =>
     obtain ⟨x, rest⟩ := p
     rw [hq] at hE hu2
     simp only [qA] at hE hu2
     have hz := unq_len hq
     simp only [List.length_cons, List.length_drop] at hz
     refine kW ?_
     refine kP [.v (.tup [.str ⟨x.toArray⟩, .str ⟨rest.toArray⟩, .int .i64 0])] ?_ ?_
     ·((repeat' apply And.intro) <;> first | exact kD | (intro hgd; refine ⟨?_, kG⟩; (repeat' apply And.intro) <;> first | exact kD | skip) | skip)
      all_goals first | (rw [toB_size]; omega) | skip
      rw [toB_fromI, drop_cons hc]
      exact hu2
     refine kW ?_
     refine kC (fun hb => ?_) fun hb => ?_
     ·simp at hb
     ·refine kW ?_
      refine AK.lp ⟨l.length - rest.length, ⟨by omega, n, by omega, hE⟩, (Weak.intro ⟨kI, ⟨_, rfl, .of_eq (congrArg _ ?_)⟩, trivial⟩ trivial rfl rfl), by omega⟩
      rw [toB_size, show (ByteArray.mk rest.toArray).size = rest.length from rfl]
      have w1 : IntKind.i64.wrap ((l.length : Int) - (rest.length : Int)) = (l.length : Int) - (rest.length : Int) := wrap_in (by omega) (by omega)
      have w2 : IntKind.i64.wrap ((l.length : Int) - (rest.length : Int) - 1) = (l.length : Int) - (rest.length : Int) - 1 := wrap_in (by omega) (by omega)
      rw [w1, w2, wrap_in (by omega) (by omega)]
      omega
   ·rw [if_neg (by rw [hb]; simp)] at hE
    refine kW ?_
    exact AK.lp ⟨i + 1, ⟨by omega, n, by omega, hE⟩, Weak.intro ⟨kI, kU, trivial⟩ trivial rfl rfl, by omega⟩
 ·have hlt : i = l.length := by have : l.length ≤ i := by simpa [toB_size] using hb
                                omega
  subst hlt
  refine AK.exit rfl ?_
  refine kW ?_
  refine AK.ret ⟨_, rfl, ?_⟩
  have e : bareL l = l := by
   rw [bareL, ← hE]
   cases n with
   | zero => rw [bareE, List.take_length]
   | succ n => rw [bareE, List.drop_length]; exact List.take_length
  rw [e]
  rfl
def splitA : Option (Bs × Bs) → AV
 | none => .tup [.str ⟨#[]⟩, .str ⟨#[]⟩, .bool false]
 | some (k, r) => .tup [.str (toB k), .str (toB r), .bool true]
theorem quoted_b (l : Bs) : ((!decide (toB l = ⟨#[]⟩)) && (decide ((((toB l).data.getD (0 : Int).toNat 0).toNat : Int) = 34) || decide ((((toB l).data.getD (0 : Int).toNat 0).toNat : Int) = 39))) = quoted l := by
 rw [ne_toB]
 cases l with
 | nil => rfl
 | cons c l =>
  rw [show (toB (c :: l)).data.getD (0 : Int).toNat 0 = c from toB_at (k := 0) rfl, isQ_eq]
  rfl
theorem split_a (l : Bs) (hl : l.length ≤ 1000000) : AC Tryz.prog 116 [.str (toB l)] (splitA (splitL l)) := by
 have hu := unquote_a (toB l) (by rw [toB_size]; omega)
 rw [unq_eq, toB_list] at hu
 have hq := quoted_b l
 unfold splitL
 refine kE Tryz.func116 a_yaml_split_ok a_yaml_split_cb fun E hE => ?_
 refine kW ?_
 refine kP [] ?_ ?_
 ·((repeat' apply And.intro) <;> first | exact kD | (intro hgd; refine ⟨?_, kG⟩; (repeat' apply And.intro) <;> first | exact kD | skip) | skip)
  all_goals
   cases l with
   | nil => simp [gd, ne_toB] at hgd
   | cons c l => rw [toB_size, List.length_cons]; omega
 refine kC (fun hb => ?_) fun hb => ?_
 ·rw [hq] at hb
  rw [if_pos hb]
  refine kW ?_
  cases hx : unqL l with
  | none =>
   rw [hx] at hu
   simp only [qA] at hu
   refine kQ [.v (.tup [.str ⟨#[]⟩, .str ⟨#[]⟩, .int .i64 11])] ?_
   refine kW ?_
   refine kP [.v (.bool false)] ?_ ?_
   ·((repeat' apply And.intro) <;> first | exact kD | (intro hgd; refine ⟨?_, kG⟩; (repeat' apply And.intro) <;> first | exact kD | skip) | skip)
    all_goals (exfalso; simp [gd] at hgd)
   refine kC (fun hb => ?_) fun hb => ?_
   ·refine kW ?_
    refine AK.ret ⟨_, rfl, ?_⟩
    rfl
   ·simp at hb
  | some p =>
   obtain ⟨key, rest⟩ := p
   rw [hx] at hu
   simp only [qA] at hu
   have hz := unq_len hx
   have hp := has_a (toB rest) ⟨#[58]⟩
   rw [has1_toB] at hp
   refine kQ [.v (.tup [.str ⟨key.toArray⟩, .str ⟨rest.toArray⟩, .int .i64 0])] ?_
   refine kW ?_
   cases rest with
   | nil =>
    refine kP [.v (.bool false)] ?_ ?_
    ·((repeat' apply And.intro) <;> first | exact kD | (intro hgd; refine ⟨?_, kG⟩; (repeat' apply And.intro) <;> first | exact kD | skip) | skip)
     all_goals first | exact hp | (exfalso; simp [gd] at hgd; done) | skip
    refine kC (fun hb => ?_) fun hb => ?_
    ·refine kW ?_
     refine AK.ret ⟨_, rfl, ?_⟩
     rfl
    ·simp at hb
   | cons c r =>
    have hsz : (ByteArray.mk (c :: r).toArray).size = r.length + 1 := rfl
    simp only at hp
    refine kP [.v (.bool (c == 58))] ?_ ?_
    ·((repeat' apply And.intro) <;> first | exact kD | (intro hgd; refine ⟨?_, kG⟩; (repeat' apply And.intro) <;> first | exact kD | skip) | skip)
     all_goals first
      | exact hp
      | (rw [hsz]
         have h1 : (1 : Int) < ((r.length + 1 : Nat) : Int) := by
          rw [hsz] at hgd
          simp [gd] at hgd
          omega
         omega)
    by_cases h58 : c = 58
    ·subst h58
     have hdr : (ByteArray.mk ((58 : UInt8) :: r).toArray).extract (1 : Int).toNat ((ByteArray.mk ((58 : UInt8) :: r).toArray).size : Int).toNat = toB r := toB_from (58 :: r) 1
     have ht := tl_a r
     cases r with
     | nil =>
      refine kC (fun hb => ?_) fun hb => ?_
      ·simp [hsz] at hb
      ·refine kW ?_
       refine kP [.v (.str (toB (tl [])))] ?_ ?_
       ·((repeat' apply And.intro) <;> first | exact kD | (intro hgd; refine ⟨?_, kG⟩; (repeat' apply And.intro) <;> first | exact kD | skip) | skip)
        all_goals first | (rw [hsz]; simp; done) | (rw [hdr]; exact ht) | skip
       refine kW ?_
       refine AK.ret ⟨_, rfl, ?_⟩
       rfl
     | cons d r =>
      have hat : (ByteArray.mk ((58 : UInt8) :: d :: r).toArray).data.getD (1 : Int).toNat 0 = d := rfl
      rw [hat, show (32 : Int) = ((32 : Nat) : Int) from rfl, byteEq d 32 (by omega), hsz]
      by_cases hd : d = 32
      ·subst hd
       refine kC (fun hb => ?_) fun hb => ?_
       ·simp at hb
       ·refine kW ?_
        refine kP [.v (.str (toB (tl (32 :: r))))] ?_ ?_
        ·((repeat' apply And.intro) <;> first | exact kD | (intro hgd; refine ⟨?_, kG⟩; (repeat' apply And.intro) <;> first | exact kD | skip) | skip)
         all_goals first | (rw [hsz]; simp; omega) | (rw [hdr]; exact ht) | skip
        refine kW ?_
        refine AK.ret ⟨_, rfl, ?_⟩
        rfl
      ·refine kC (fun hb => ?_) fun hb => ?_
       ·refine kW ?_
        refine AK.ret ⟨_, rfl, ?_⟩
        simp [hd, splitA]
        rfl
       ·exfalso
        simp [hd] at hb
        omega
    ·refine kC (fun hb => ?_) fun hb => ?_
     ·refine kW ?_
      refine AK.ret ⟨_, rfl, ?_⟩
      simp [h58, splitA]
      rfl
     ·exfalso
      simp [h58] at hb
 ·rw [hq] at hb
  rw [if_neg (by rw [hb]; simp)]
  have hi := index_a l [58, 32] hl
  have hsf := suff_a l [58] hl
  refine kW ?_
  rcases Lib.index_spec l [58, 32] with ⟨h1, _⟩ | ⟨i, h1, _⟩
  ·rw [h1] at hi ⊢
   rw [if_pos (by omega)]
   refine kQ [.v (.int .i64 (-1))] ?_
   refine kW ?_
   refine kC (fun hb => ?_) fun hb => ?_
   ·refine kW ?_
    refine kQ [.v (.bool (Lib.hasSuffix l [58]))] ?_
    refine kC (fun hb => ?_) fun hb => ?_
    ·rw [if_neg (by simpa using hb)]
     refine kW ?_
     refine AK.ret ⟨_, rfl, ?_⟩
     rfl
    ·have hs : Lib.hasSuffix l [58] = true := by simpa using hb
     rw [if_pos hs]
     have hne : 1 ≤ l.length := by
      cases l with
      | nil => simp [Lib.hasSuffix] at hs
      | cons c l => simp
     have hw : IntKind.i64.wrap (((toB l).size : Int) - 1) = ((l.length - 1 : Nat) : Int) := by rw [toB_size, wrap_in (by omega) (by omega)]; omega
     have hd : l.drop (l.length - 1 + 1) = [] := by rw [show l.length - 1 + 1 = l.length by omega]; exact List.drop_length
     refine kW ?_
     rw [hw]
     have hk := tr_a (l.take (l.length - 1)) (by rw [List.length_take]; omega)
     have ho := odd_a (tr (l.take (l.length - 1)))
     have hr := tl_a (l.drop ((l.length - 1) + 1))
     refine kP [.v (.str (toB (tr (l.take (l.length - 1)))))] ?_ ?_
     ·((repeat' apply And.intro) <;> first | exact kD | (intro hgd; refine ⟨?_, kG⟩; (repeat' apply And.intro) <;> first | exact kD | skip) | skip)
      all_goals first | (rw [toB_size]; omega) | (rw [toB_toI _ _ (by omega)]; exact hk) | skip
     refine kW ?_
     refine kQ [.v (.bool (oddL (tr (l.take (l.length - 1)))))] ?_
     refine kC (fun hb => ?_) fun hb => ?_
     ·rw [if_pos (by rw [ne_toB] at hb; simpa [List.isEmpty_iff] using hb)]
      refine kW ?_
      refine AK.ret ⟨_, rfl, ?_⟩
      rfl
     ·rw [if_neg (by rw [ne_toB] at hb; simpa [List.isEmpty_iff] using hb)]
      have hw1 : IntKind.i64.wrap (((l.length - 1) : Nat) + 1 : Int) = (((l.length - 1) + 1 : Nat) : Int) := by rw [wrap_in (by omega) (by omega)]; omega
      refine kW ?_
      refine kP [.v (.str (toB (tl (l.drop ((l.length - 1) + 1)))))] ?_ ?_
      ·((repeat' apply And.intro) <;> first | exact kD | (intro hgd; refine ⟨?_, kG⟩; (repeat' apply And.intro) <;> first | exact kD | skip) | skip)
       all_goals first | (rw [hw1, toB_size]; omega) | (rw [hw1]; omega) | (rw [hw1, toB_fromI]; exact hr) | skip
      refine kW ?_
      refine AK.ret ⟨_, rfl, ?_⟩
      (rw [hd]; rfl)
   ·simp at hb
  ·have h2 := Lib.index_room l [58, 32] (by omega)
   rw [h1] at hi h2 ⊢
   rw [if_neg (by omega)]
   simp only [List.length_cons, List.length_nil] at h2
   refine kQ [.v (.int .i64 i)] ?_
   refine kW ?_
   refine kC (fun hb => ?_) fun hb => ?_
   ·exfalso
    have : (i : Int) < 0 := by simpa using hb
    omega
   ·simp only [Int.toNat_natCast]
    refine kW ?_
    have hk := tr_a (l.take i) (by rw [List.length_take]; omega)
    have ho := odd_a (tr (l.take i))
    have hr := tl_a (l.drop (i + 1))
    refine kP [.v (.str (toB (tr (l.take i))))] ?_ ?_
    ·((repeat' apply And.intro) <;> first | exact kD | (intro hgd; refine ⟨?_, kG⟩; (repeat' apply And.intro) <;> first | exact kD | skip) | skip)
     all_goals first | (rw [toB_size]; omega) | (rw [toB_toI _ _ (by omega)]; exact hk) | skip
    refine kW ?_
    refine kQ [.v (.bool (oddL (tr (l.take i))))] ?_
    refine kC (fun hb => ?_) fun hb => ?_
    ·rw [if_pos (by rw [ne_toB] at hb; simpa [List.isEmpty_iff] using hb)]
     refine kW ?_
     refine AK.ret ⟨_, rfl, ?_⟩
     rfl
    ·rw [if_neg (by rw [ne_toB] at hb; simpa [List.isEmpty_iff] using hb)]
     have hw1 : IntKind.i64.wrap ((i : Nat) + 1 : Int) = ((i + 1 : Nat) : Int) := by rw [wrap_in (by omega) (by omega)]; omega
     refine kW ?_
     refine kP [.v (.str (toB (tl (l.drop (i + 1)))))] ?_ ?_
     ·((repeat' apply And.intro) <;> first | exact kD | (intro hgd; refine ⟨?_, kG⟩; (repeat' apply And.intro) <;> first | exact kD | skip) | skip)
      all_goals first | (rw [hw1, toB_size]; omega) | (rw [hw1]; omega) | (rw [hw1, toB_fromI]; exact hr) | skip
     refine kW ?_
     refine AK.ret ⟨_, rfl, ?_⟩
     rfl
end Go.Proofs.YtnpkejnaeemgjaaGreatDoor
/-
 yaml.lines, walked: the lines of a text, in a row of the call's own.
-/
namespace Go.Proofs.YtnpkejnaeemgjaaGreatDoor
open Go.RowKit
theorem linesL_app : ∀ a b : List Bs, linesL (a ++ b) = (match linesL a, linesL b with
  | some x, some y => some (x ++ y)
  | _, _ => none)
 | [], b => by
  show linesL b = (match some [], linesL b with | some x, some y => some (x ++ y) | _, _ => none)
  cases linesL b <;> rfl
 | x :: a, b => by
  have ih := linesL_app a b
  rw [List.cons_append, linesL, linesL, ih]
  cases oneLine x with
  | none => rfl
  | some o => cases linesL a with
   | none => rfl
   | some p => cases linesL b with
    | none => rfl
    | some q => simp
theorem linesL_one (x : Bs) : linesL [x] = (oneLine x).map fun o => o.toList := by
 rw [linesL, linesL]
 cases oneLine x <;> simp
def linesT (s : ByteArray) : Option (List (Nat × Bs)) := linesL ((splT 10 s).map fun x => x.data.toList)
def rowsLn (l : List (Nat × Bs)) : List (List AV) := l.map fun x => [.int .i64 x.1, .str (toB x.2)]
theorem rowsLn_len (l : List (Nat × Bs)) : (rowsLn l).length = l.length := List.length_map _
theorem linesL_len : ∀ {l : List Bs} {r : List (Nat × Bs)}, linesL l = some r → r.length ≤ l.length
 | [], r, h => by cases h; simp
 | x :: l, r, h => by
  rw [linesL] at h
  cases ho : oneLine x with
  | none => rw [ho] at h; cases h
  | some o =>
   rw [ho] at h
   cases hl : linesL l with
   | none => rw [hl] at h; cases h
   | some p =>
    rw [hl] at h
    cases h
    have := linesL_len hl
    cases o <;> simp <;> omega
theorem lines_walk (s : ByteArray) (hs : s.size ≤ 1000000) {E : Env} (Q : Exit → Fr → St → Prop)
  (h0 : linesT s = none → ∀ fr st, fr 2 = some (.lst .nil 2 []) → fr 3 = some (.int .i64 12) → Q .ret fr st)
  (h1 : ∀ ls, linesT s = some ls → ∀ fr st, fr 2 = some (.lst (.own 34 (st.row 34)) 2 (rowsLn ls)) → fr 3 = some (.int .i64 0) → Q .ret fr st) :
  AK Tryz.prog E Q [.c a_yaml_lines.body] (argFr 0 [.str s]) ⟨fun _ => none, fun _ => 0⟩ := by
 show AK _ _ _ [.c b_yaml_lines] _ _
 rw [b_yaml_lines]
 have hsp := splitT_a 10 s hs
 have hle := splT_le 10 s
 have hmem := fun x (h : x ∈ splT 10 s) => splT_mem h
 obtain ⟨ps, hps⟩ : ∃ ps, ps = splT 10 s := ⟨_, rfl⟩
 unfold linesT at h0 h1
 rw [← hps] at hsp hle hmem h0 h1
 clear hps
 refine kW ?_
 refine kQ [.v (.lst .any 1 (rowsT ps))] ?_
 refine kW ?_
 refine AK.loopI (fun i : Nat × (Nat → Nat) => (frOf [(3, .int .i64 0), (4, .lst (.own 34 (i.2 34)) 2 (rowsLn ((linesL ((ps.take i.1).map fun x => x.data.toList)).getD []))), (9, .lst .any 1 (rowsT ps)), (10, .int .i64 (rowsT ps).length), (11, .int .i64 i.1)], ⟨boxOf [], i.2⟩))
  (fun i => i.1 ≤ ps.length ∧ (linesL ((ps.take i.1).map fun x => x.data.toList)).isSome = true) (fun i => ps.length - i.1) (0, fun _ => 0) ⟨Nat.zero_le _, rfl⟩ (Weak.intro ⟨kI, ⟨_, rfl, .one (.own _ _ _ _)⟩, kI, kI, kI, trivial⟩ trivial rfl rfl) fun ⟨k, r⟩ ⟨hk, hsm⟩ => ?_
 dsimp only at hk hsm
 obtain ⟨acc, hacc⟩ := Option.isSome_iff_exists.1 hsm
 have haccl := linesL_len hacc
 rw [List.length_map, List.length_take] at haccl
 rw [hacc]
 refine kW ?_
 refine kC (fun hb => ?_) fun hb => ?_
 ·have hlt : k < ps.length := by simpa [rowsT_len] using hb
  obtain ⟨p, hg⟩ : ∃ x, ps[k]? = some x := ⟨_, List.getElem?_eq_getElem hlt⟩
  have hpz := hmem p (List.mem_of_getElem? hg)
  have hpz' : p.data.toList.length ≤ 1000000 := by show p.size ≤ _; omega
  have hst : (ps.take (k + 1)).map (fun x => x.data.toList) = (ps.take k).map (fun x => x.data.toList) ++ [p.data.toList] := by
   rw [List.take_add_one, hg, List.map_append]; rfl
  have hsplit : ps.map (fun x => x.data.toList) = (ps.take (k + 1)).map (fun x => x.data.toList) ++ (ps.drop (k + 1)).map (fun x => x.data.toList) := by
   rw [← List.map_append, List.take_append_drop]
  have hba := ybare_a p.data.toList hpz'
  rw [toB_eta] at hba
  have hbl : (bareL p.data.toList).length ≤ 1000000 := by unfold bareL; rw [List.length_take]; omega
  have htr := tr_a (bareL p.data.toList) hbl
  have htl := tl_a (tr (bareL p.data.toList))
  have hz1 := tr_len (bareL p.data.toList)
  have hz2 := tl_len (tr (bareL p.data.toList))
  have hone : oneLine p.data.toList = (match tl (tr (bareL p.data.toList)) with
   | [] => some none
   | c :: t => if c = 9 then none else some (some ((tr (bareL p.data.toList)).length - (c :: t).length, c :: t))) := rfl
  have hne := ne_toB (tl (tr (bareL p.data.toList)))
  refine kW ?_
  refine kP [.c [.str p]] ?_ ?_
  ·((repeat' apply And.intro) <;> first | exact kD | (intro hgd; refine ⟨?_, kG⟩; (repeat' apply And.intro) <;> first | exact kD | skip) | skip)
   ·exact rowsT_at hg
  refine kW ?_
  refine kQ [.v (.str (toB (bareL p.data.toList))), .v (.str (toB (tr (bareL p.data.toList))))] ?_
  refine kW ?_
  refine kQ [.v (.str (toB (tl (tr (bareL p.data.toList)))))] ?_
  refine kW ?_
  rw [hne]
  generalize hY : tr (bareL p.data.toList) = y at *
  cases hT : tl y with
  | nil =>
   rw [hT] at hone
   simp only at hone
   refine kC (fun hb => ?_) fun hb => ?_
   ·refine kW ?_
    refine AK.exit rfl ?_
    refine kW ?_
    refine AK.lp ⟨(k + 1, r), ⟨by dsimp only; omega, ?_⟩, Weak.intro ⟨kI, ⟨_, rfl, .of_eq ?_⟩, kI, kI, kU, trivial⟩ trivial rfl rfl, by dsimp only; omega⟩
    ·dsimp only
     rw [hst, linesL_app, hacc, linesL_one, hone]
     rfl
    ·dsimp only
     rw [hst, linesL_app, hacc, linesL_one, hone]
     simp
   ·simp at hb
  | cons c t =>
   rw [hT] at hone hz2
   simp only at hone
   simp only [List.length_cons] at hz2
   have hsz : (toB (c :: t)).size = t.length + 1 := rfl
   have hat : (toB (c :: t)).data.getD (0 : Int).toNat 0 = c := rfl
   refine kC (fun hb => ?_) fun hb => ?_
   ·simp at hb
   ·refine kW ?_
    refine kP [] ?_ ?_
    ·((repeat' apply And.intro) <;> first | exact kD | (intro hgd; refine ⟨?_, kG⟩; (repeat' apply And.intro) <;> first | exact kD | skip) | skip)
     all_goals first | (rw [hsz]; omega) | skip
    rw [hat, show (9 : Int) = ((9 : Nat) : Int) from rfl, byteEq c 9 (by omega)]
    by_cases h9 : c = 9
    ·subst h9
     have hnone : linesL (ps.map fun x => x.data.toList) = none := by
      rw [hsplit, hst, linesL_app, linesL_app, hacc, linesL_one, hone]
      rfl
     refine kC (fun hb => ?_) fun hb => ?_
     ·refine kW ?_
      exact AK.ret (h0 hnone _ _ rfl rfl)
     ·simp at hb
    ·rw [if_neg h9] at hone
     have hw : IntKind.i64.wrap (((toB y).size : Int) - ((toB (c :: t)).size : Int)) = ((y.length - (c :: t).length : Nat) : Int) := by
      rw [List.length_cons, toB_size, hsz, wrap_in (by omega) (by omega)]; omega
     refine kC (fun hb => ?_) fun hb => ?_
     ·simp [h9] at hb
     ·refine kW ?_
      refine kP [] ?_ ?_
      ·((repeat' apply And.intro) <;> first | exact kD | (intro hgd; refine ⟨?_, kG⟩; (repeat' apply And.intro) <;> first | exact kD | skip) | skip)
       all_goals simp only [rowsLn_len, List.length_nil, List.length_cons, Option.getD_some]
       all_goals omega
      refine kW ?_
      rw [hw]
      refine AK.lp ⟨(k + 1, _), ⟨by dsimp only; omega, ?_⟩, Weak.intro ⟨kI, ⟨_, rfl, .of_eq ?_⟩, kI, kI, kU, trivial⟩ trivial rfl rfl, by dsimp only; omega⟩
      ·dsimp only
       rw [hst, linesL_app, hacc, linesL_one, hone]
       rfl
      ·dsimp only
       rw [hst, linesL_app, hacc, linesL_one, hone]
       simp [rowsLn]
       exact ⟨by simp [appTag, appRow, upd_same], rfl, rfl⟩
 ·have hlt : k = ps.length := by have : ps.length ≤ k := by simpa [rowsT_len] using hb
                                 omega
  subst hlt
  rw [List.take_length] at hacc
  refine AK.exit rfl ?_
  refine kW ?_
  exact AK.ret (h1 acc hacc _ _ rfl rfl)
theorem lines_none (s : ByteArray) (hs : s.size ≤ 1000000) (h : linesT s = none) : AC Tryz.prog 79 [.str s] (.tup [.lst .any 2 [], .int .i64 12]) := by
 refine AC.enter Tryz.func79 a_yaml_lines_ok a_yaml_lines_cb (by rfl) fun E hE => lines_walk s hs _ (fun _ fr st e1 e2 => ⟨_, by show resVals fr st [.tmp 2, .tmp 3] = _; simp only [resVals, resValsG, resVal, e1, e2, AV.arg]; rfl, rfl⟩) fun ls hl => by rw [h] at hl; cases hl
theorem lines_nil (s : ByteArray) (hs : s.size ≤ 1000000) (h : linesT s = some []) : AC Tryz.prog 79 [.str s] (.tup [.lst .any 2 [], .int .i64 0]) := by
 refine AC.enter Tryz.func79 a_yaml_lines_ok a_yaml_lines_cb (by rfl) fun E hE => lines_walk s hs _ (fun hl => by rw [h] at hl; cases hl) fun ls hl fr st e1 e2 => ?_
 rw [h] at hl
 cases hl
 exact ⟨_, by show resVals fr st [.tmp 2, .tmp 3] = _; simp only [resVals, resValsG, resVal, e1, e2, AV.arg]; rfl, rfl⟩
theorem lines_mt (s : ByteArray) (hs : s.size ≤ 1000000) {ls : List (Nat × Bs)} (h : linesT s = some ls) (hne : ls ≠ []) : MT Tryz.prog 79 [.str s] 2 (rowsLn ls) [.int .i64 0] := by
 refine MT.enter Tryz.func79 a_yaml_lines_ok a_yaml_lines_cb (by rfl) (by rw [rowsLn_len]; exact List.length_pos_iff.2 hne) (by omega) (fun c hc x hx => ?_) (by simp) (fun x hx => ?_) fun E hE => lines_walk s hs _ (fun hl => by rw [h] at hl; cases hl) fun ls' hl fr st e1 e2 => ?_
 ·obtain ⟨p, _, rfl⟩ := List.mem_map.1 hc
  rcases List.mem_cons.1 hx with rfl | hx
  ·rfl
  ·rcases List.mem_cons.1 hx with rfl | hx
   ·rfl
   ·cases hx
 ·rcases List.mem_cons.1 hx with rfl | hx
  ·rfl
  ·cases hx
 ·rw [h] at hl
  cases hl
  exact ⟨2, 34, [.tmp 3], rfl, e1, by simp only [resVals, resValsG, resVal, e2, AV.arg]; rfl⟩
end Go.Proofs.YtnpkejnaeemgjaaGreatDoor
