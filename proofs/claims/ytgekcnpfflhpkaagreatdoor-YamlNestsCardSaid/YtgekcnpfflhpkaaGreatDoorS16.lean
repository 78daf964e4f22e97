/-
  The texts that the claim wants, one behind the other: part 16.
-/
import Derived.Test.YtgekcnpfflhpkaaGreatDoorS15
import Derived.Test.YtgekcnpfflhpkaaGreatDoorChecked
import Derived.KernelRfl
set_option linter.unusedSimpArgs false
set_option linter.unusedVariables false
namespace Go.Proofs.YtgekcnpfflhpkaaGreatDoor
open Go.RowKit
theorem toB_eta (s : ByteArray) : toB s.data.toList = s := rfl
theorem toB_list (l : Bs) : (toB l).data.toList = l := rfl
theorem toB_size (l : Bs) : (toB l).size = l.length := rfl
theorem toB_at {l : Bs} {k : Nat} {c : UInt8} (h : l[k]? = some c) : (toB l).data.getD k 0 = c := by
 have := (List.getElem?_eq_some_iff.1 h)
 obtain ⟨h1, h2⟩ := this
 rw [Array.getD, dif_pos (show k < (toB l).data.size from h1)]
 exact h2
theorem toB_ext (l : Bs) (a b : Nat) (h : b ≤ l.length) : (toB l).extract a b = toB ((l.take b).drop a) := by
 apply ByteArray.ext
 apply Array.toList_inj.1
 rw [ByteArray.data_extract]
 simp [toB, List.extract_eq_take_drop]
 rw [List.drop_take]
theorem toB_to (l : Bs) (b : Nat) (h : b ≤ l.length) : (toB l).extract 0 b = toB (l.take b) := by rw [toB_ext l 0 b h]; rfl
theorem toB_from (l : Bs) (a : Nat) : (toB l).extract a (toB l).size = toB (l.drop a) := by
 rw [toB_size, toB_ext l a _ (Nat.le_refl _), List.take_length]
theorem toB_inj {a b : Bs} : toB a = toB b ↔ a = b := ⟨fun h => by have := congrArg (fun x => x.data.toList) h; exact this, fun h => by rw [h]⟩
theorem AC.of2 {f : FuncId} {x y : ByteArray} {v : Value} {r : AV} (hcb : callable Tryz.prog f = true) (hr : ∀ σ, RelR σ v r) (h : ∀ w, GW w → Calls Tryz.prog f #[.string x, .string y] w fun e w' => e = .returned v ∧ w' = w) : AC Tryz.prog f [.str x, .str y] r := by
 refine ⟨hcb, fun σ w vs hh hrs hg => ?_⟩
 obtain ⟨v1, v2, rfl, h1, h2⟩ := two_args hrs
 have h1 : Rel1 σ v1 (.str x) := h1
 have h2 : Rel1 σ v2 (.str y) := h2
 cases h1; cases h2
 refine (h w hg).mono ?_
 rintro e w' ⟨rfl, rfl⟩
 exact ⟨σ, _, rfl, Ext.refl _ _, hh, Below.refl _ _, hr σ⟩
theorem tl_a (l : Bs) : AC Tryz.prog 47 [.str (toB l), .str ⟨#[32]⟩] (.str (toB (tl l))) := AC.of2 (by kernel_rfl) (fun _ => Rel1.str _) fun w _ => Tryz.strings_TrimLeft_one (toB l) 32 (by decide) w
theorem tr_a (l : Bs) (hl : l.length ≤ 1000000) : AC Tryz.prog 18 [.str (toB l), .str ⟨#[32]⟩] (.str (toB (tr l))) := AC.of2 (by kernel_rfl) (fun _ => Rel1.str _) fun w _ => Tryz.strings_TrimRight_one (toB l) 32 (by decide) w (by show l.length ≤ _; omega)
theorem suff_a (l p : Bs) (hl : l.length ≤ 1000000) : AC Tryz.prog 88 [.str (toB l), .str (toB p)] (.bool (Lib.hasSuffix l p)) := AC.of2 (by kernel_rfl) (fun _ => Rel1.bool _) fun w _ => Tryz.strings_HasSuffix (toB l) (toB p) w (by show l.length ≤ _; omega)
theorem index_a (l p : Bs) (hl : l.length ≤ 1000000) : AC Tryz.prog 67 [.str (toB l), .str (toB p)] (.int .i64 (Lib.index l p)) := AC.of2 (by kernel_rfl) (fun _ => Rel1.int _ _) fun w hg => by
 obtain ⟨m, hm⟩ := hg.num 0 (by simp [globZ])
 exact Tryz.strings_Index (toB l) (toB p) m w (by show l.length < _; omega) hm
theorem contains_a (l p : Bs) (hl : l.length ≤ 1000000) : AC Tryz.prog 124 [.str (toB l), .str (toB p)] (.bool (Lib.contains l p)) := AC.of2 (by kernel_rfl) (fun _ => Rel1.bool _) fun w hg => by
 obtain ⟨m, hm⟩ := hg.num 0 (by simp [globZ])
 exact Tryz.strings_Contains (toB l) (toB p) m w (by show l.length < _; omega) hm
theorem ixB_a (l : Bs) (c : UInt8) : AC Tryz.prog 113 [.str (toB l), .int .u8 c.toNat] (.int .i64 (Lib.indexByte l c)) := by
 have h := indexByte_a (toB l) c.toNat
 rw [show ((c.toNat : Int).toNat).toUInt8 = c by simp] at h
 exact h
theorem ix_mem (l : Bs) (c : UInt8) : decide (0 ≤ Lib.indexByte l c) = l.contains c := by
 rw [Bool.eq_iff_iff, decide_eq_true_eq, List.contains_iff_mem]
 rcases ixT_cases l c with ⟨h1, h2⟩ | ⟨i, h1, h2, h3, h4⟩
 ·rw [h1]; exact ⟨fun h => absurd h (by omega), fun h => absurd h h2⟩
 ·rw [h1]; exact ⟨fun _ => List.mem_of_getElem? h3, fun _ => by omega⟩
theorem has_toB (l p : Bs) : hasB (toB l) (toB p) = p.isPrefixOf l := by
 rw [Bool.eq_iff_iff, hasB, Bool.and_eq_true, decide_eq_true_eq, decide_eq_true_eq, List.isPrefixOf_iff_prefix, toB_size, toB_size]
 constructor
 ·rintro ⟨h1, h2⟩
  rw [toB_to l _ h1, toB_inj] at h2
  rw [← h2]
  exact List.take_prefix _ _
 ·intro h
  refine ⟨h.length_le, ?_⟩
  rw [toB_to l _ h.length_le, toB_inj]
  exact (List.prefix_iff_eq_take.1 h).symm
theorem has1_toB (l : Bs) (c : UInt8) : hasB (toB l) ⟨#[c]⟩ = (match l with | [] => false | d :: _ => d == c) := by
 rw [show (⟨#[c]⟩ : ByteArray) = toB [c] from rfl, has_toB]
 cases l with
 | nil => rfl
 | cons d l => simp [List.isPrefixOf, eq_comm (a := c), BEq.comm (a := c)]
theorem item_a (l : Bs) : AC Tryz.prog 49 [.str (toB l)] (.bool (isItem l)) := by
 have h := has_a (toB l) (toB [45, 32])
 rw [has_toB] at h
 have e : decide (toB l = ⟨#[45]⟩) = (l == [45]) := by
  rw [show (⟨#[45]⟩ : ByteArray) = toB [45] from rfl, Bool.eq_iff_iff, decide_eq_true_eq, toB_inj, beq_iff_eq]
 refine kE Tryz.func49 a_yaml_item_ok a_yaml_item_cb fun E hE => ?_
 refine kW ?_
 refine kQ [.v (.bool ([45, 32].isPrefixOf l))] ?_
 refine kW ?_
 refine AK.ret ⟨_, rfl, ?_⟩
 rw [e]
 rfl
theorem odd_a (l : Bs) : AC Tryz.prog 89 [.str (toB l)] (.bool (oddL l)) := by
 cases l with
 | nil =>
  have h := ixB_a ([91, 93, 123, 125, 44, 38, 42, 33, 124, 62, 37, 64, 35, 63, 58, 34, 39, 96] : Bs) 0
  refine kE Tryz.func89 a_yaml_odd_ok a_yaml_odd_cb fun E hE => ?_
  refine kW ?_
  refine kQ [.v (.int .i64 0)] ?_
  refine kW ?_
  refine AK.ret ⟨_, rfl, ?_⟩
  rfl
 | cons c l =>
  have h := ixB_a ([91, 93, 123, 125, 44, 38, 42, 33, 124, 62, 37, 64, 35, 63, 58, 34, 39, 96] : Bs) c
  have hm := ix_mem ([91, 93, 123, 125, 44, 38, 42, 33, 124, 62, 37, 64, 35, 63, 58, 34, 39, 96] : Bs) c
  have hne : decide (toB (c :: l) = ⟨#[]⟩) = false := by
   rw [show (⟨#[]⟩ : ByteArray) = toB [] from rfl, decide_eq_false_iff_not, toB_inj]
   simp
  have hat : (toB (c :: l)).data.getD (0 : Int).toNat 0 = c := toB_at (k := 0) rfl
  have hsz : (0 : Int) < (toB (c :: l)).size := by rw [toB_size, List.length_cons]; omega
  refine kE Tryz.func89 a_yaml_odd_ok a_yaml_odd_cb fun E hE => ?_
  refine kW ?_
  refine kQ [.v (.int .i64 (Lib.indexByte ([91, 93, 123, 125, 44, 38, 42, 33, 124, 62, 37, 64, 35, 63, 58, 34, 39, 96] : Bs) c))] ?_
  refine kW ?_
  refine AK.ret ⟨_, rfl, ?_⟩
  rw [hne]
  exact congrArg AV.bool hm
theorem isQ_eq (c : UInt8) : (decide ((c.toNat : Int) = 34) || decide ((c.toNat : Int) = 39)) = isQ c := by
 have e : ∀ n : Nat, n < 256 → (decide ((c.toNat : Int) = n)) = (c == n.toUInt8) := fun n hn => by
  rw [Bool.eq_iff_iff, decide_eq_true_eq, beq_iff_eq, ← UInt8.toNat_inj]
  simp [Nat.mod_eq_of_lt hn]
  omega
 rw [show ((34 : Int)) = ((34 : Nat) : Int) from rfl, show ((39 : Int)) = ((39 : Nat) : Int) from rfl, e 34 (by omega), e 39 (by omega)]
 rfl
theorem byteEq (c : UInt8) (n : Nat) (hn : n < 256) : decide ((c.toNat : Int) = (n : Int)) = (c == n.toUInt8) := by
 rw [Bool.eq_iff_iff, decide_eq_true_eq, beq_iff_eq, ← UInt8.toNat_inj]
 simp [Nat.mod_eq_of_lt hn]
 omega
theorem opens_a (l : Bs) (i : Nat) (c : UInt8) (hi : l[i]? = some c) (hl : l.length ≤ 1000000) : AC Tryz.prog 83 [.str (toB l), .int .i64 i] (.bool (isQ c && openB (prevL l i))) := by
 have hlt := (List.getElem?_eq_some_iff.1 hi).1
 have hat : (toB l).data.getD (i : Int).toNat 0 = c := toB_at (by simpa using hi)
 have hsz : (i : Int) < (toB l).size := by rw [toB_size]; omega
 have hq := isQ_eq c
 rcases i with _ | i
 ·have h := ixB_a ([32, 91, 123, 44] : Bs) c
  refine kE Tryz.func83 a_yaml_opens_ok a_yaml_opens_cb fun E hE => ?_
  refine kW ?_
  refine kP [.v (.int .i64 0)] ?_ ?_
  ·((repeat' apply And.intro) <;> first | exact kD | (intro hgd; refine ⟨?_, kG⟩; (repeat' apply And.intro) <;> first | exact kD | skip) | skip)
   all_goals (exfalso; simp [gd] at hgd)
  refine kW ?_
  refine AK.ret ⟨_, rfl, ?_⟩
  refine congrArg AV.bool ?_
  rw [hat]
  rw [hq]
  rfl
 ·obtain ⟨d, hd⟩ : ∃ d, l[i]? = some d := ⟨_, List.getElem?_eq_getElem (by omega)⟩
  have h := ixB_a ([32, 91, 123, 44] : Bs) d
  have hm := ix_mem ([32, 91, 123, 44] : Bs) d
  have hw : IntKind.i64.wrap (((i + 1 : Nat) : Int) - 1) = (i : Int) := by rw [wrap_in (by omega) (by omega)]; omega
  have hat2 : (toB l).data.getD (IntKind.i64.wrap (((i + 1 : Nat) : Int) - 1)).toNat 0 = d := by rw [hw]; exact toB_at (by simpa using hd)
  refine kE Tryz.func83 a_yaml_opens_ok a_yaml_opens_cb fun E hE => ?_
  refine kW ?_
  refine kP [.v (.int .i64 (Lib.indexByte ([32, 91, 123, 44] : Bs) d))] ?_ ?_
  ·((repeat' apply And.intro) <;> first | exact kD | (intro hgd; refine ⟨?_, kG⟩; (repeat' apply And.intro) <;> first | exact kD | skip) | skip)
   all_goals first | (rw [hw]; omega) | (rw [hat2]; exact h) | skip
  refine kW ?_
  refine AK.ret ⟨_, rfl, ?_⟩
  refine congrArg AV.bool ?_
  rw [hat, hq]
  have h0 : decide (((i + 1 : Nat) : Int) = 0) = false := by rw [decide_eq_false_iff_not]; omega
  rw [h0]
  have hp : prevL l (i + 1) = some d := by rw [prevL, if_neg (by omega)]; exact hd
  rw [hp]
  simp only [Bool.false_or]
  congr 1
  show decide (0 ≤ _) = _
  rw [hm]
  simp only [openB, List.contains, List.elem]
  cases d == 32 <;> cases d == 91 <;> cases d == 123 <;> cases d == 44 <;> rfl
end Go.Proofs.YtgekcnpfflhpkaaGreatDoor
/-
 yaml.bare, split, lines: walked.
-/
namespace Go.Proofs.YtgekcnpfflhpkaaGreatDoor
open Go.RowKit
theorem ne_toB (l : Bs) : decide (toB l = ⟨#[]⟩) = l.isEmpty := by
 rw [show (⟨#[]⟩ : ByteArray) = toB [] from rfl, Bool.eq_iff_iff, decide_eq_true_eq, toB_inj, List.isEmpty_iff]
theorem toB_fromI (l : Bs) (i : Nat) : (toB l).extract (i : Int).toNat ((toB l).size : Int).toNat = toB (l.drop i) := toB_from l i
theorem toB_toI (l : Bs) (i : Nat) (h : i ≤ l.length) : (toB l).extract (0 : Int).toNat (i : Int).toNat = toB (l.take i) := toB_to l i h
theorem drop_cons {l : Bs} {i : Nat} {c : UInt8} (h : l[i]? = some c) : l.drop i = c :: l.drop (i + 1) := by
 rw [List.drop_eq_getElem_cons (List.getElem?_eq_some_iff.1 h).1, (List.getElem?_eq_some_iff.1 h).2]
theorem hash_b (l : Bs) (i : Nat) (c : UInt8) (hi : l[i]? = some c) (hl : l.length ≤ 1000000) :
  (decide ((((toB l).data.getD (i : Int).toNat 0).toNat : Int) = 35) && (decide ((i : Int) = 0) || decide ((((toB l).data.getD (IntKind.i64.wrap ((i : Int) - 1)).toNat 0).toNat : Int) = 32))) = (c == 35 && blankB (prevL l i)) := by
 have hlt := (List.getElem?_eq_some_iff.1 hi).1
 have hat : (toB l).data.getD (i : Int).toNat 0 = c := toB_at (by simpa using hi)
 rw [hat, show (35 : Int) = ((35 : Nat) : Int) from rfl, byteEq c 35 (by omega)]
 congr 1
 rcases i with _ | i
 ·rfl
 ·obtain ⟨d, hd⟩ : ∃ d, l[i]? = some d := ⟨_, List.getElem?_eq_getElem (by omega)⟩
  have hw : IntKind.i64.wrap (((i + 1 : Nat) : Int) - 1) = (i : Int) := by rw [wrap_in (by omega) (by omega)]; omega
  have hat2 : (toB l).data.getD (IntKind.i64.wrap (((i + 1 : Nat) : Int) - 1)).toNat 0 = d := by rw [hw]; exact toB_at (by simpa using hd)
  have h0 : decide (((i + 1 : Nat) : Int) = 0) = false := by rw [decide_eq_false_iff_not]; omega
  have hp : prevL l (i + 1) = some d := by rw [prevL, if_neg (by omega)]; exact hd
  rw [h0, hat2, hp, show (32 : Int) = ((32 : Nat) : Int) from rfl, byteEq d 32 (by omega)]
  rfl
theorem ybare_a (l : Bs) (hl : l.length ≤ 1000000) : AC Tryz.prog 46 [.str (toB l)] (.str (toB (bareL l))) := by
 have hu := fun k => unquote_a (toB (l.drop k)) (by rw [toB_size, List.length_drop]; omega)
 refine kE Tryz.func46 a_yaml_bare_ok a_yaml_bare_cb fun E hE => ?_
 refine kW ?_
 refine AK.loopI (fun i : Nat => (frOf [(0, .str (toB l)), (3, .int .i64 i)], ⟨boxOf [], fun _ => 0⟩)) (fun i => i ≤ l.length ∧ ∃ n, l.length < n + i ∧ bareE l n i = bareE l (l.length + 1) 0) (fun i => l.length - i) 0 ⟨by omega, l.length + 1, by omega, rfl⟩ (Weak.intro ⟨kI, kI, trivial⟩ trivial rfl rfl) fun i ⟨hi, n, hn, hE⟩ => ?_
 refine kW ?_
 refine kC (fun hb => ?_) fun hb => ?_
 ·have hlt : i < l.length := by simpa [toB_size] using hb
  obtain ⟨c, hc⟩ : ∃ c, l[i]? = some c := ⟨_, List.getElem?_eq_getElem hlt⟩
  have hh := hash_b l i c hc hl
  have hop := opens_a l i c hc hl
  obtain ⟨n, rfl⟩ : ∃ m, n = m + 1 := ⟨n - 1, by omega⟩
  rw [bareE, drop_cons hc] at hE
  simp only at hE
  have hsz : (i : Int) < (toB l).size := by rw [toB_size]; omega
  refine kW ?_
  refine kP [] ?_ ?_
  ·((repeat' apply And.intro) <;> first | exact kD | (intro hgd; refine ⟨?_, kG⟩; (repeat' apply And.intro) <;> first | exact kD | skip) | skip)
   all_goals first
    | (rw [toB_size]; omega)
    | (have h0 : ¬ (i : Int) = 0 := by
         intro h0
         simp [gd, h0] at hgd
       rw [wrap_in (by omega) (by omega)]
       first | omega | (rw [toB_size]; omega))
  refine kC (fun hb => ?_) fun hb => ?_
  ·rw [hh] at hb
   rw [if_pos hb] at hE
   refine kW ?_
   refine kP [] ?_ ?_
   ·((repeat' apply And.intro) <;> first | exact kD | (intro hgd; refine ⟨?_, kG⟩; (repeat' apply And.intro) <;> first | exact kD | skip) | skip)
    all_goals (rw [toB_size]; omega)
   refine kW ?_
   refine AK.ret ⟨_, rfl, ?_⟩
   have e : (toB l).extract (0 : Int).toNat (i : Int).toNat = toB (bareL l) := by
    rw [bareL, ← hE]
    exact toB_to l i hi
   rw [e]
   rfl
  ·rw [hh] at hb
   rw [if_neg (by rw [hb]; simp)] at hE
   refine kW ?_
   refine kQ [.v (.bool (isQ c && openB (prevL l i)))] ?_
   refine kC (fun hb => ?_) fun hb => ?_
   ·rw [if_pos hb] at hE
    have hu2 := hu i
    rw [unq_eq, toB_list, drop_cons hc] at hu2
    cases hq : unqL (c :: l.drop (i + 1)) with
    | none =>
     rw [hq] at hE hu2
     simp only [qA] at hE hu2
     refine kW ?_
     refine kP [.v (.tup [.str ⟨#[]⟩, .str ⟨#[]⟩, .int .i64 11])] ?_ ?_
     ·((repeat' apply And.intro) <;> first | exact kD | (intro hgd; refine ⟨?_, kG⟩; (repeat' apply And.intro) <;> first | exact kD | skip) | skip)
      all_goals first | (rw [toB_size]; omega) | skip
      rw [toB_fromI, drop_cons hc]
      exact hu2
     refine kW ?_
     refine kC (fun hb => ?_) fun hb => ?_
     ·refine kW ?_
      refine AK.ret ⟨_, rfl, ?_⟩
      rw [bareL, ← hE, List.take_length]
      rfl
     ·simp at hb
    | some p =>
     obtain ⟨x, rest⟩ := p
     rw [hq] at hE hu2
     simp only [qA] at hE hu2
     have hz := unq_len hq
     simp only [List.length_cons, List.length_drop] at hz
     refine kW ?_
     refine kP [.v (.tup [.str ⟨x.toArray⟩, .str ⟨rest.toArray⟩, .int .i64 0])] ?_ ?_
     ·((repeat' apply And.intro) <;> first | exact kD | (intro hgd; refine ⟨?_, kG⟩; (repeat' apply And.intro) <;> first | exact kD | skip) | skip)
      all_goals first | (rw [toB_size]; omega) | skip
      rw [toB_fromI, drop_cons hc]
      exact hu2
     refine kW ?_
     refine kC (fun hb => ?_) fun hb => ?_
     ·simp at hb
     ·refine kW ?_
      refine AK.lp ⟨l.length - rest.length, ⟨by omega, n, by omega, hE⟩, (Weak.intro ⟨kI, ⟨_, rfl, .of_eq (congrArg _ ?_)⟩, trivial⟩ trivial rfl rfl), by omega⟩
      rw [toB_size, show (ByteArray.mk rest.toArray).size = rest.length from rfl]
      have w1 : IntKind.i64.wrap ((l.length : Int) - (rest.length : Int)) = (l.length : Int) - (rest.length : Int) := wrap_in (by omega) (by omega)
      have w2 : IntKind.i64.wrap ((l.length : Int) - (rest.length : Int) - 1) = (l.length : Int) - (rest.length : Int) - 1 := wrap_in (by omega) (by omega)
      rw [w1, w2, wrap_in (by omega) (by omega)]
      omega
   ·rw [if_neg (by rw [hb]; simp)] at hE
    refine kW ?_
    exact AK.lp ⟨i + 1, ⟨by omega, n, by omega, hE⟩, Weak.intro ⟨kI, kU, trivial⟩ trivial rfl rfl, by omega⟩
 ·have hlt : i = l.length := by have : l.length ≤ i := by simpa [toB_size] using hb
                                omega
  subst hlt
  refine AK.exit rfl ?_
  refine kW ?_
  refine AK.ret ⟨_, rfl, ?_⟩
  have e : bareL l = l := by
   rw [bareL, ← hE]
   cases n with
   | zero => rw [bareE, List.take_length]
   | succ n => rw [bareE, List.drop_length]; exact List.take_length
  rw [e]
  rfl
def splitA : Option (Bs × Bs) → AV
 | none => .tup [.str ⟨#[]⟩, .str ⟨#[]⟩, .bool false]
 | some (k, r) => .tup [.str (toB k), .str (toB r), .bool true]
theorem quoted_b (l : Bs) : ((!decide (toB l = ⟨#[]⟩)) && (decide ((((toB l).data.getD (0 : Int).toNat 0).toNat : Int) = 34) || decide ((((toB l).data.getD (0 : Int).toNat 0).toNat : Int) = 39))) = quoted l := by
 rw [ne_toB]
 cases l with
 | nil => rfl
 | cons c l =>
  rw [show (toB (c :: l)).data.getD (0 : Int).toNat 0 = c from toB_at (k := 0) rfl, isQ_eq]
  rfl
theorem split_a (l : Bs) (hl : l.length ≤ 1000000) : AC Tryz.prog 48 [.str (toB l)] (splitA (splitL l)) := by
 have hu := unquote_a (toB l) (by rw [toB_size]; omega)
 rw [unq_eq, toB_list] at hu
 have hq := quoted_b l
 unfold splitL
 refine kE Tryz.func48 a_yaml_split_ok a_yaml_split_cb fun E hE => ?_
 refine kW ?_
 refine kP [] ?_ ?_
 ·((repeat' apply And.intro) <;> first | exact kD | (intro hgd; refine ⟨?_, kG⟩; (repeat' apply And.intro) <;> first | exact kD | skip) | skip)
  all_goals
   cases l with
   | nil => simp [gd, ne_toB] at hgd
   | cons c l => rw [toB_size, List.length_cons]; omega
 refine kC (fun hb => ?_) fun hb => ?_
 ·rw [hq] at hb
  rw [if_pos hb]
  refine kW ?_
  cases hx : unqL l with
  | none =>
   rw [hx] at hu
   simp only [qA] at hu
   refine kQ [.v (.tup [.str ⟨#[]⟩, .str ⟨#[]⟩, .int .i64 11])] ?_
   refine kW ?_
   refine kP [.v (.bool false)] ?_ ?_
   ·((repeat' apply And.intro) <;> first | exact kD | (intro hgd; refine ⟨?_, kG⟩; (repeat' apply And.intro) <;> first | exact kD | skip) | skip)
    all_goals (exfalso; simp [gd] at hgd)
   refine kC (fun hb => ?_) fun hb => ?_
   ·refine kW ?_
    refine AK.ret ⟨_, rfl, ?_⟩
    rfl
   ·simp at hb
  | some p =>
   obtain ⟨key, rest⟩ := p
   rw [hx] at hu
   simp only [qA] at hu
   have hz := unq_len hx
   have hp := has_a (toB rest) ⟨#[58]⟩
   rw [has1_toB] at hp
   refine kQ [.v (.tup [.str ⟨key.toArray⟩, .str ⟨rest.toArray⟩, .int .i64 0])] ?_
   refine kW ?_
   cases rest with
   | nil =>
    refine kP [.v (.bool false)] ?_ ?_
    ·((repeat' apply And.intro) <;> first | exact kD | (intro hgd; refine ⟨?_, kG⟩; (repeat' apply And.intro) <;> first | exact kD | skip) | skip)
     all_goals first | exact hp | (exfalso; simp [gd] at hgd; done) | skip
    refine kC (fun hb => ?_) fun hb => ?_
    ·refine kW ?_
     refine AK.ret ⟨_, rfl, ?_⟩
     rfl
    ·simp at hb
   | cons c r =>
    have hsz : (ByteArray.mk (c :: r).toArray).size = r.length + 1 := rfl
    simp only at hp
    refine kP [.v (.bool (c == 58))] ?_ ?_
    ·((repeat' apply And.intro) <;> first | exact kD | (intro hgd; refine ⟨?_, kG⟩; (repeat' apply And.intro) <;> first | exact kD | skip) | skip)
     all_goals first
      | exact hp
      | (rw [hsz]
         have h1 : (1 : Int) < ((r.length + 1 : Nat) : Int) := by
          rw [hsz] at hgd
          simp [gd] at hgd
          omega
         omega)
    by_cases h58 : c = 58
    ·subst h58
     have hdr : (ByteArray.mk ((58 : UInt8) :: r).toArray).extract (1 : Int).toNat ((ByteArray.mk ((58 : UInt8) :: r).toArray).size : Int).toNat = toB r := toB_from (58 :: r) 1
     have ht := tl_a r
     cases r with
     | nil =>
      refine kC (fun hb => ?_) fun hb => ?_
      ·simp [hsz] at hb
      ·refine kW ?_
       refine kP [.v (.str (toB (tl [])))] ?_ ?_
       ·((repeat' apply And.intro) <;> first | exact kD | (intro hgd; refine ⟨?_, kG⟩; (repeat' apply And.intro) <;> first | exact kD | skip) | skip)
        all_goals first | (rw [hsz]; simp; done) | (rw [hdr]; exact ht) | skip
       refine kW ?_
       refine AK.ret ⟨_, rfl, ?_⟩
       rfl
     | cons d r =>
      have hat : (ByteArray.mk ((58 : UInt8) :: d :: r).toArray).data.getD (1 : Int).toNat 0 = d := rfl
      rw [hat, show (32 : Int) = ((32 : Nat) : Int) from rfl, byteEq d 32 (by omega), hsz]
      by_cases hd : d = 32
      ·subst hd
       refine kC (fun hb => ?_) fun hb => ?_
       ·simp at hb
       ·refine kW ?_
        refine kP [.v (.str (toB (tl (32 :: r))))] ?_ ?_
        ·((repeat' apply And.intro) <;> first | exact kD | (intro hgd; refine ⟨?_, kG⟩; (repeat' apply And.intro) <;> first | exact kD | skip) | skip)
         all_goals first | (rw [hsz]; simp; omega) | (rw [hdr]; exact ht) | skip
        refine kW ?_
        refine AK.ret ⟨_, rfl, ?_⟩
        rfl
      ·refine kC (fun hb => ?_) fun hb => ?_
       ·refine kW ?_
        refine AK.ret ⟨_, rfl, ?_⟩
        simp [hd, splitA]
        rfl
       ·exfalso
        simp [hd] at hb
        omega
    ·refine kC (fun hb => ?_) fun hb => ?_
     ·refine kW ?_
      refine AK.ret ⟨_, rfl, ?_⟩
      simp [h58, splitA]
      rfl
     ·exfalso
      simp [h58] at hb
 ·rw [hq] at hb
  rw [if_neg (by rw [hb]; simp)]
  have hi := index_a l [58, 32] hl
  have hsf := suff_a l [58] hl
  refine kW ?_
  rcases Lib.index_spec l [58, 32] with ⟨h1, _⟩ | ⟨i, h1, _⟩
  ·rw [h1] at hi ⊢
   rw [if_pos (by omega)]
   refine kQ [.v (.int .i64 (-1))] ?_
   refine kW ?_
   refine kC (fun hb => ?_) fun hb => ?_
   ·refine kW ?_
    refine kQ [.v (.bool (Lib.hasSuffix l [58]))] ?_
    refine kC (fun hb => ?_) fun hb => ?_
    ·rw [if_neg (by simpa using hb)]
     refine kW ?_
     refine AK.ret ⟨_, rfl, ?_⟩
     rfl
    ·have hs : Lib.hasSuffix l [58] = true := by simpa using hb
     rw [if_pos hs]
     have hne : 1 ≤ l.length := by
      cases l with
      | nil => simp [Lib.hasSuffix] at hs
      | cons c l => simp
     have hw : IntKind.i64.wrap (((toB l).size : Int) - 1) = ((l.length - 1 : Nat) : Int) := by rw [toB_size, wrap_in (by omega) (by omega)]; omega
     have hd : l.drop (l.length - 1 + 1) = [] := by rw [show l.length - 1 + 1 = l.length by omega]; exact List.drop_length
     refine kW ?_
     rw [hw]
     have hk := tr_a (l.take (l.length - 1)) (by rw [List.length_take]; omega)
     have ho := odd_a (tr (l.take (l.length - 1)))
     have hr := tl_a (l.drop ((l.length - 1) + 1))
     refine kP [.v (.str (toB (tr (l.take (l.length - 1)))))] ?_ ?_
     ·((repeat' apply And.intro) <;> first | exact kD | (intro hgd; refine ⟨?_, kG⟩; (repeat' apply And.intro) <;> first | exact kD | skip) | skip)
      all_goals first | (rw [toB_size]; omega) | (rw [toB_toI _ _ (by omega)]; exact hk) | skip
     refine kW ?_
     refine kQ [.v (.bool (oddL (tr (l.take (l.length - 1)))))] ?_
     refine kC (fun hb => ?_) fun hb => ?_
     ·rw [if_pos (by rw [ne_toB] at hb; simpa [List.isEmpty_iff] using hb)]
      refine kW ?_
      refine AK.ret ⟨_, rfl, ?_⟩
      rfl
     ·rw [if_neg (by rw [ne_toB] at hb; simpa [List.isEmpty_iff] using hb)]
      have hw1 : IntKind.i64.wrap (((l.length - 1) : Nat) + 1 : Int) = (((l.length - 1) + 1 : Nat) : Int) := by rw [wrap_in (by omega) (by omega)]; omega
      refine kW ?_
      refine kP [.v (.str (toB (tl (l.drop ((l.length - 1) + 1)))))] ?_ ?_
      ·((repeat' apply And.intro) <;> first | exact kD | (intro hgd; refine ⟨?_, kG⟩; (repeat' apply And.intro) <;> first | exact kD | skip) | skip)
       all_goals first | (rw [hw1, toB_size]; omega) | (rw [hw1]; omega) | (rw [hw1, toB_fromI]; exact hr) | skip
      refine kW ?_
      refine AK.ret ⟨_, rfl, ?_⟩
      (rw [hd]; rfl)
   ·simp at hb
  ·have h2 := Lib.index_room l [58, 32] (by omega)
   rw [h1] at hi h2 ⊢
   rw [if_neg (by omega)]
   simp only [List.length_cons, List.length_nil] at h2
   refine kQ [.v (.int .i64 i)] ?_
   refine kW ?_
   refine kC (fun hb => ?_) fun hb => ?_
   ·exfalso
    have : (i : Int) < 0 := by simpa using hb
    omega
   ·simp only [Int.toNat_natCast]
    refine kW ?_
    have hk := tr_a (l.take i) (by rw [List.length_take]; omega)
    have ho := odd_a (tr (l.take i))
    have hr := tl_a (l.drop (i + 1))
    refine kP [.v (.str (toB (tr (l.take i))))] ?_ ?_
    ·((repeat' apply And.intro) <;> first | exact kD | (intro hgd; refine ⟨?_, kG⟩; (repeat' apply And.intro) <;> first | exact kD | skip) | skip)
     all_goals first | (rw [toB_size]; omega) | (rw [toB_toI _ _ (by omega)]; exact hk) | skip
    refine kW ?_
    refine kQ [.v (.bool (oddL (tr (l.take i))))] ?_
    refine kC (fun hb => ?_) fun hb => ?_
    ·rw [if_pos (by rw [ne_toB] at hb; simpa [List.isEmpty_iff] using hb)]
     refine kW ?_
     refine AK.ret ⟨_, rfl, ?_⟩
     rfl
    ·rw [if_neg (by rw [ne_toB] at hb; simpa [List.isEmpty_iff] using hb)]
     have hw1 : IntKind.i64.wrap ((i : Nat) + 1 : Int) = ((i + 1 : Nat) : Int) := by rw [wrap_in (by omega) (by omega)]; omega
     refine kW ?_
     refine kP [.v (.str (toB (tl (l.drop (i + 1)))))] ?_ ?_
     ·((repeat' apply And.intro) <;> first | exact kD | (intro hgd; refine ⟨?_, kG⟩; (repeat' apply And.intro) <;> first | exact kD | skip) | skip)
      all_goals first | (rw [hw1, toB_size]; omega) | (rw [hw1]; omega) | (rw [hw1, toB_fromI]; exact hr) | skip
     refine kW ?_
     refine AK.ret ⟨_, rfl, ?_⟩
     rfl
end Go.Proofs.YtgekcnpfflhpkaaGreatDoor
/-
 yaml.lines, walked: the lines of a text, in a row of the call's own.
-/
namespace Go.Proofs.YtgekcnpfflhpkaaGreatDoor
open Go.RowKit
theorem linesL_app : ∀ a b : List Bs, linesL (a ++ b) = (match linesL a, linesL b with
  | some x, some y => some (x ++ y)
  | _, _ => none)
 | [], b => by
  show linesL b = (match some [], linesL b with | some x, some y => some (x ++ y) | _, _ => none)
  cases linesL b <;> rfl
 | x :: a, b => by
  have ih := linesL_app a b
  rw [List.cons_append, linesL, linesL, ih]
  cases oneLine x with
  | none => rfl
  | some o => cases linesL a with
   | none => rfl
   | some p => cases linesL b with
    | none => rfl
    | some q => simp
theorem linesL_one (x : Bs) : linesL [x] = (oneLine x).map fun o => o.toList := by
 rw [linesL, linesL]
 cases oneLine x <;> simp
def linesT (s : ByteArray) : Option (List (Nat × Bs)) := linesL ((splT 10 s).map fun x => x.data.toList)
def rowsLn (l : List (Nat × Bs)) : List (List AV) := l.map fun x => [.int .i64 x.1, .str (toB x.2)]
theorem rowsLn_len (l : List (Nat × Bs)) : (rowsLn l).length = l.length := List.length_map _
theorem linesL_len : ∀ {l : List Bs} {r : List (Nat × Bs)}, linesL l = some r → r.length ≤ l.length
 | [], r, h => by cases h; simp
 | x :: l, r, h => by
  rw [linesL] at h
  cases ho : oneLine x with
  | none => rw [ho] at h; cases h
  | some o =>
   rw [ho] at h
   cases hl : linesL l with
   | none => rw [hl] at h; cases h
   | some p =>
    rw [hl] at h
    cases h
    have := linesL_len hl
    cases o <;> simp <;> omega
theorem lines_walk (s : ByteArray) (hs : s.size ≤ 1000000) {E : Env} (Q : Exit → Fr → St → Prop)
  (h0 : linesT s = none → ∀ fr st, fr 2 = some (.lst .nil 2 []) → fr 3 = some (.int .i64 12) → Q .ret fr st)
  (h1 : ∀ ls, linesT s = some ls → ∀ fr st, fr 2 = some (.lst (.own 34 (st.row 34)) 2 (rowsLn ls)) → fr 3 = some (.int .i64 0) → Q .ret fr st) :
  AK Tryz.prog E Q [.c a_yaml_lines.body] (argFr 0 [.str s]) ⟨fun _ => none, fun _ => 0⟩ := by
 show AK _ _ _ [.c b_yaml_lines] _ _
 rw [b_yaml_lines]
 have hsp := splitT_a 10 s hs
 have hle := splT_le 10 s
 have hmem := fun x (h : x ∈ splT 10 s) => splT_mem h
 obtain ⟨ps, hps⟩ : ∃ ps, ps = splT 10 s := ⟨_, rfl⟩
 unfold linesT at h0 h1
 rw [← hps] at hsp hle hmem h0 h1
 clear hps
 refine kW ?_
 refine kQ [.v (.lst .any 1 (rowsT ps))] ?_
 refine kW ?_
 refine AK.loopI (fun i : Nat × (Nat → Nat) => (frOf [(3, .int .i64 0), (4, .lst (.own 34 (i.2 34)) 2 (rowsLn ((linesL ((ps.take i.1).map fun x => x.data.toList)).getD []))), (9, .lst .any 1 (rowsT ps)), (10, .int .i64 (rowsT ps).length), (11, .int .i64 i.1)], ⟨boxOf [], i.2⟩))
  (fun i => i.1 ≤ ps.length ∧ (linesL ((ps.take i.1).map fun x => x.data.toList)).isSome = true) (fun i => ps.length - i.1) (0, fun _ => 0) ⟨Nat.zero_le _, rfl⟩ (Weak.intro ⟨kI, ⟨_, rfl, .one (.own _ _ _ _)⟩, kI, kI, kI, trivial⟩ trivial rfl rfl) fun ⟨k, r⟩ ⟨hk, hsm⟩ => ?_
 dsimp only at hk hsm
 obtain ⟨acc, hacc⟩ := Option.isSome_iff_exists.1 hsm
 have haccl := linesL_len hacc
 rw [List.length_map, List.length_take] at haccl
 rw [hacc]
 refine kW ?_
 refine kC (fun hb => ?_) fun hb => ?_
 ·have hlt : k < ps.length := by simpa [rowsT_len] using hb
  obtain ⟨p, hg⟩ : ∃ x, ps[k]? = some x := ⟨_, List.getElem?_eq_getElem hlt⟩
  have hpz := hmem p (List.mem_of_getElem? hg)
  have hpz' : p.data.toList.length ≤ 1000000 := by show p.size ≤ _; omega
  have hst : (ps.take (k + 1)).map (fun x => x.data.toList) = (ps.take k).map (fun x => x.data.toList) ++ [p.data.toList] := by
   rw [List.take_add_one, hg, List.map_append]; rfl
  have hsplit : ps.map (fun x => x.data.toList) = (ps.take (k + 1)).map (fun x => x.data.toList) ++ (ps.drop (k + 1)).map (fun x => x.data.toList) := by
   rw [← List.map_append, List.take_append_drop]
  have hba := ybare_a p.data.toList hpz'
  rw [toB_eta] at hba
  have hbl : (bareL p.data.toList).length ≤ 1000000 := by unfold bareL; rw [List.length_take]; omega
  have htr := tr_a (bareL p.data.toList) hbl
  have htl := tl_a (tr (bareL p.data.toList))
  have hz1 := tr_len (bareL p.data.toList)
  have hz2 := tl_len (tr (bareL p.data.toList))
  have hone : oneLine p.data.toList = (match tl (tr (bareL p.data.toList)) with
   | [] => some none
   | c :: t => if c = 9 then none else some (some ((tr (bareL p.data.toList)).length - (c :: t).length, c :: t))) := rfl
  have hne := ne_toB (tl (tr (bareL p.data.toList)))
  refine kW ?_
  refine kP [.c [.str p]] ?_ ?_
  ·((repeat' apply And.intro) <;> first | exact kD | (intro hgd; refine ⟨?_, kG⟩; (repeat' apply And.intro) <;> first | exact kD | skip) | skip)
   ·exact rowsT_at hg
  refine kW ?_
  refine kQ [.v (.str (toB (bareL p.data.toList))), .v (.str (toB (tr (bareL p.data.toList))))] ?_
  refine kW ?_
  refine kQ [.v (.str (toB (tl (tr (bareL p.data.toList)))))] ?_
  refine kW ?_
  rw [hne]
  generalize hY : tr (bareL p.data.toList) = y at *
  cases hT : tl y with
  | nil =>
   rw [hT] at hone
   simp only at hone
   refine kC (fun hb => ?_) fun hb => ?_
   ·refine kW ?_
    refine AK.exit rfl ?_
    refine kW ?_
    refine AK.lp ⟨(k + 1, r), ⟨by dsimp only; omega, ?_⟩, Weak.intro ⟨kI, ⟨_, rfl, .of_eq ?_⟩, kI, kI, kU, trivial⟩ trivial rfl rfl, by dsimp only; omega⟩
    ·dsimp only
     rw [hst, linesL_app, hacc, linesL_one, hone]
     rfl
    ·dsimp only
     rw [hst, linesL_app, hacc, linesL_one, hone]
     simp
   ·simp at hb
  | cons c t =>
   rw [hT] at hone hz2
   simp only at hone
   simp only [List.length_cons] at hz2
   have hsz : (toB (c :: t)).size = t.length + 1 := rfl
   have hat : (toB (c :: t)).data.getD (0 : Int).toNat 0 = c := rfl
   refine kC (fun hb => ?_) fun hb => ?_
   ·simp at hb
   ·refine kW ?_
    refine kP [] ?_ ?_
    ·((repeat' apply And.intro) <;> first | exact kD | (intro hgd; refine ⟨?_, kG⟩; (repeat' apply And.intro) <;> first | exact kD | skip) | skip)
     all_goals first | (rw [hsz]; omega) | skip
    rw [hat, show (9 : Int) = ((9 : Nat) : Int) from rfl, byteEq c 9 (by omega)]
    by_cases h9 : c = 9
    ·subst h9
     have hnone : linesL (ps.map fun x => x.data.toList) = none := by
      rw [hsplit, hst, linesL_app, linesL_app, hacc, linesL_one, hone]
      rfl
     refine kC (fun hb => ?_) fun hb => ?_
     ·refine kW ?_
      exact AK.ret (h0 hnone _ _ rfl rfl)
     ·simp at hb
    ·rw [if_neg h9] at hone
     have hw : IntKind.i64.wrap (((toB y).size : Int) - ((toB (c :: t)).size : Int)) = ((y.length - (c :: t).length : Nat) : Int) := by
      rw [List.length_cons, toB_size, hsz, wrap_in (by omega) (by omega)]; omega
     refine kC (fun hb => ?_) fun hb => ?_
     ·simp [h9] at hb
     ·refine kW ?_
      refine kP [] ?_ ?_
      ·((repeat' apply And.intro) <;> first | exact kD | (intro hgd; refine ⟨?_, kG⟩; (repeat' apply And.intro) <;> first | exact kD | skip) | skip)
       all_goals simp only [rowsLn_len, List.length_nil, List.length_cons, Option.getD_some]
       all_goals omega
      refine kW ?_
      rw [hw]
      refine AK.lp ⟨(k + 1, _), ⟨by dsimp only; omega, ?_⟩, Weak.intro ⟨kI, ⟨_, rfl, .of_eq ?_⟩, kI, kI, kU, trivial⟩ trivial rfl rfl, by dsimp only; omega⟩
      ·dsimp only
       rw [hst, linesL_app, hacc, linesL_one, hone]
       rfl
      ·dsimp only
       rw [hst, linesL_app, hacc, linesL_one, hone]
       simp [rowsLn]
       exact ⟨by simp [appTag, appRow, upd_same], rfl, rfl⟩
 ·have hlt : k = ps.length := by have : ps.length ≤ k := by simpa [rowsT_len] using hb
                                 omega
  subst hlt
  rw [List.take_length] at hacc
  refine AK.exit rfl ?_
  refine kW ?_
  exact AK.ret (h1 acc hacc _ _ rfl rfl)
theorem lines_none (s : ByteArray) (hs : s.size ≤ 1000000) (h : linesT s = none) : AC Tryz.prog 21 [.str s] (.tup [.lst .any 2 [], .int .i64 12]) := by
 refine AC.enter Tryz.func21 a_yaml_lines_ok a_yaml_lines_cb (by rfl) fun E hE => lines_walk s hs _ (fun _ fr st e1 e2 => ⟨_, by show resVals fr st [.tmp 2, .tmp 3] = _; simp only [resVals, resValsG, resVal, e1, e2, AV.arg]; rfl, rfl⟩) fun ls hl => by rw [h] at hl; cases hl
theorem lines_nil (s : ByteArray) (hs : s.size ≤ 1000000) (h : linesT s = some []) : AC Tryz.prog 21 [.str s] (.tup [.lst .any 2 [], .int .i64 0]) := by
 refine AC.enter Tryz.func21 a_yaml_lines_ok a_yaml_lines_cb (by rfl) fun E hE => lines_walk s hs _ (fun hl => by rw [h] at hl; cases hl) fun ls hl fr st e1 e2 => ?_
 rw [h] at hl
 cases hl
 exact ⟨_, by show resVals fr st [.tmp 2, .tmp 3] = _; simp only [resVals, resValsG, resVal, e1, e2, AV.arg]; rfl, rfl⟩
theorem lines_mt (s : ByteArray) (hs : s.size ≤ 1000000) {ls : List (Nat × Bs)} (h : linesT s = some ls) (hne : ls ≠ []) : MT Tryz.prog 21 [.str s] 2 (rowsLn ls) [.int .i64 0] := by
 refine MT.enter Tryz.func21 a_yaml_lines_ok a_yaml_lines_cb (by rfl) (by rw [rowsLn_len]; exact List.length_pos_iff.2 hne) (by omega) (fun c hc x hx => ?_) (by simp) (fun x hx => ?_) fun E hE => lines_walk s hs _ (fun hl => by rw [h] at hl; cases hl) fun ls' hl fr st e1 e2 => ?_
 ·obtain ⟨p, _, rfl⟩ := List.mem_map.1 hc
  rcases List.mem_cons.1 hx with rfl | hx
  ·rfl
  ·rcases List.mem_cons.1 hx with rfl | hx
   ·rfl
   ·cases hx
 ·rcases List.mem_cons.1 hx with rfl | hx
  ·rfl
  ·cases hx
 ·rw [h] at hl
  cases hl
  exact ⟨2, 34, [.tmp 3], rfl, e1, by simp only [resVals, resValsG, resVal, e2, AV.arg]; rfl⟩
end Go.Proofs.YtgekcnpfflhpkaaGreatDoor
namespace Go.Proofs.YtgekcnpfflhpkaaGreatDoor
set_option maxRecDepth 100000
def b_tree_Put : ACode :=
 .seq (.reg [⟨none, .box 3 (.s 0)⟩, ⟨none, .box 5 (.s 2)⟩, ⟨none, .alloc 6 [.int .i64 0, .bool false, .int .i64 0, .str ⟨#[]⟩, .lst .nil 6 [], .lst .nil 7 []]⟩]) (.seq (.seq (.reg [⟨none, .off 7 0 (.s 3)⟩, ⟨none, .ld 8 1 false (.s 7)⟩, ⟨none, .bin 9 .neq false (.s 8) (.k (.int .i64 5))⟩]) (.cond (.s 9) (.reg [⟨none, .build 10 [.int .i64 0, .bool false, .int .i64 0, .str ⟨#[]⟩, .lst .nil 6 [], .lst .nil 7 []] []⟩, ⟨none, .st 6 (.s 3) (.s 10)⟩]) .skip)) (.seq (.reg [⟨none, .off 11 5 (.s 3)⟩, ⟨none, .ld 12 1 false (.s 11)⟩, ⟨none, .callo (some 13) (.k (.fn 121 [])) [.s 12]⟩, ⟨none, .mov 14 (.s 1)⟩, ⟨none, .ld 15 6 true (.s 5)⟩, ⟨none, .build 16 [.str ⟨#[]⟩, .int .i64 0, .bool false, .int .i64 0, .str ⟨#[]⟩, .lst .nil 6 [], .lst .nil 7 []] [(0, 1, .s 14), (1, 6, .s 15)]⟩, ⟨none, .bsl 17 1 7 [.str ⟨#[]⟩, .int .i64 0, .bool false, .int .i64 0, .str ⟨#[]⟩, .lst .nil 6 [], .lst .nil 7 []] [(0, 7, .s 16)]⟩, ⟨none, .app 18 7 104 (.s 13) (.s 17)⟩, ⟨none, .call (some 19) (.k (.fn 92 [])) [.s 18]⟩, ⟨none, .st 6 (.s 6) (.s 19)⟩]) .ret))
def a_tree_Put : AFn := ⟨3, 20, b_tree_Put, [.cell 6 6 true]⟩
theorem a_tree_Put_ok : fnAF Tryz.prog [1000121] Tryz.f94 = some a_tree_Put := by kernel_rfl
theorem a_tree_Put_cb : callable Tryz.prog 94 = true := by kernel_rfl
end Go.Proofs.YtgekcnpfflhpkaaGreatDoor
namespace Go.Proofs.YtgekcnpfflhpkaaGreatDoor
open Go.RowKit
set_option maxRecDepth 100000 in
theorem cloneP_nilf : AC Tryz.prog 121 [.lst .any 7 []] (.lst .full 7 []) := by
 refine ⟨a_slices_Clone_Pair_cb, fun σ w vs hh hr hg => ?_⟩
 obtain ⟨v, rfl⟩ := List.length_eq_one_iff.1 hr.1
 have h1 : Rel1 σ v (.lst .any 7 []) := hr.2 0 v _ rfl rfl
 obtain ⟨A, cap, b, o, news, rfl, _⟩ := lst_cells h1
 have q24 : ∀ (w : World) (a : Option Addr) (n c : Nat), (binOp .eql 26 (.slice a n c) (.slice none 0 0)).run Tryz.prog w = .ok (.bool a.isNone) w := fun w a n c => by simp [binOp, run_equal_slice_nil w _ _ a n c Tryz.underlying26]
 obtain ⟨i0, hi0, _⟩ := info_parts info_pair
 have hrel : ∀ (A : Option Addr), RelR σ (.slice A 0 0) (.lst .full 7 []) := fun A => .lst .full 7 [] A 0 0 0 0 (fun _ _ => undef) rfl (by omega) (fun h => by omega) (fun i c h => by simp at h) (fun i j h => by omega) (fun i j c a h => by simp at h) rfl
 cases A with
 | none =>
  go_enter Tryz.func121, Tryz.ntmps121
  go_wp2
  go_ret
  exact ⟨σ, _, rfl, Ext.refl _ _, hh, Below.refl _ _, hrel none⟩
 | some a =>
  have hrun := fun ty => run_append_zero (P := Tryz.prog) (w.alloc (.cells #[] 44)) 26 ty 44 Tryz.underlying26 hi0 (some ⟨w.heap.size, 0, none⟩) (some a) 0 0 cap (by omega)
  go_enter Tryz.func121, Tryz.ntmps121
  go_wp2_with (at_builtin; refine Lib.wpList_append_run _ rfl _ _ _ _ rfl _ _ rfl rfl _ _ (hrun _) ?_)
  go_wp2
  go_ret
  have hbl : Below w.heap.size w (w.alloc (.cells #[] 44)) := (Below.refl _ _).alloc (Nat.le_refl _) _
  exact ⟨σ, _, rfl, Ext.refl _ _, fun b q v hv => (hbl.cell (p := ⟨b, q, none⟩) (World.block_lt_of_cell? w _ (hh _ _ _ hv))).trans (hh _ _ _ hv), hbl, hrel _⟩
theorem mapOf_put {key : ByteArray} {x : V} {m : List (ByteArray × V)} (h : Rises m) : mapOf (m ++ [(key, x)]) = minsert key x m := by
 have := mapOf_take (l := m ++ [(key, x)]) (k := m.length) (p := (key, x)) (by simp)
 rw [List.take_of_length_le (by simp), List.take_left', mapOf_rises h] at this
 ·exact this
 ·rfl
theorem treePut_o (v : V) (key : ByteArray) (x : V) (ho : v.ord) (hs : v.size + x.size ≤ 1000000000000) : AC Tryz.prog 94 [.agg [.int .i64 (v).kind, .bool (v).b, .int .i64 (v).n, .str (v).s, .lst .any 6 (rowsV (v).l), .lst .any 7 (rowsM (v).m)], .str key, .agg [.int .i64 (x).kind, .bool (x).b, .int .i64 (x).n, .str (x).s, .lst .any 6 (rowsV (x).l), .lst .any 7 (rowsM (x).m)]] (.agg [.int .i64 ((vMap (minsert key x v.m))).kind, .bool ((vMap (minsert key x v.m))).b, .int .i64 ((vMap (minsert key x v.m))).n, .str ((vMap (minsert key x v.m))).s, .lst .any 6 (rowsV ((vMap (minsert key x v.m))).l), .lst .any 7 (rowsM ((vMap (minsert key x v.m))).m)]) := by
 have hor := (V.ord_eq v).1 ho
 have hve := v.size_eq
 have hlm := len_le_sizeM v.m
 have hsz : sizeM (v.m ++ [(key, x)]) ≤ 1000000000000 := by
  have : ∀ m : List (ByteArray × V), sizeM (m ++ [(key, x)]) = sizeM m + x.size := by
   intro m
   induction m with
   | nil => simp [sizeM]
   | cons p m ih => obtain ⟨k, u⟩ := p; simp only [List.cons_append, sizeM, ih]; omega
  rw [this]; omega
 have hT := treeMap_a (v.m ++ [(key, x)]) hsz
 rw [mapOf_put hor.2.2.1, rowsM_append, rowsM, rowsM, cellsV_eq] at hT
 show AC Tryz.prog 94 [.agg [.int .i64 (v).kind, .bool (v).b, .int .i64 (v).n, .str (v).s, .lst .any 6 (rowsV (v).l), .lst .any 7 (rowsM (v).m)], .str key, .agg [.int .i64 (x).kind, .bool (x).b, .int .i64 (x).n, .str (x).s, .lst .any 6 (rowsV (x).l), .lst .any 7 (rowsM (x).m)]] (.agg [.int .i64 5, .bool false, .int .i64 0, .str ⟨#[]⟩, .lst .any 6 [], .lst .any 7 (rowsM (minsert key x v.m))])
 by_cases hk : v.kind = 5
 ·have hv := hor.1 hk
  generalize v.m = m at *
  subst hv
  refine kE Tryz.func94 a_tree_Put_ok a_tree_Put_cb fun E hE => ?_
  refine kW ?_
  refine kC (fun hb => ?_) fun hb => ?_
  ·cases hb
  cases m with
  | nil =>
   refine kW ?_
   refine kP [.v (.lst .full 7 []), .v (.agg [.int .i64 5, .bool false, .int .i64 0, .str ⟨#[]⟩, .lst .any 6 [], .lst .any 7 (rowsM (minsert key x []))])] ?_ ?_
   ·((repeat' apply And.intro) <;> first | exact kD | (intro hgd; refine ⟨?_, kG⟩; (repeat' apply And.intro) <;> first | exact kD | skip) | skip)
    ·exact cloneP_nilf
   refine kW ?_
   refine AK.ret ⟨_, rfl, ?_⟩
   rfl
  | cons p m =>
   refine kW ?_
   refine kP [.o 7 (rowsM (p :: m)), .v (.agg [.int .i64 5, .bool false, .int .i64 0, .str ⟨#[]⟩, .lst .any 6 [], .lst .any 7 (rowsM (minsert key x (p :: m)))])] ?_ ?_
   ·((repeat' apply And.intro) <;> first | exact kD | (intro hgd; refine ⟨?_, kG⟩; (repeat' apply And.intro) <;> first | exact kD | skip) | skip)
    ·exact cloneP_mf _ (by rw [rowsM_len]; simp) (by rw [rowsM_len]; omega)
    all_goals simp only [rowsM_len, List.length_nil, List.length_cons, List.length_map] at hlm ⊢
    all_goals omega
   refine kW ?_
   refine AK.ret ⟨_, rfl, ?_⟩
   rfl
 ·have hm := hor.2.1 hk
  rw [hm] at hT ⊢
  refine kE Tryz.func94 a_tree_Put_ok a_tree_Put_cb fun E hE => ?_
  refine kW ?_
  refine kC (fun hb => ?_) fun hb => ?_
  ·refine kW ?_
   refine kP [.v (.lst .full 7 []), .v (.agg [.int .i64 5, .bool false, .int .i64 0, .str ⟨#[]⟩, .lst .any 6 [], .lst .any 7 (rowsM (minsert key x []))])] ?_ ?_
   ·((repeat' apply And.intro) <;> first | exact kD | (intro hgd; refine ⟨?_, kG⟩; (repeat' apply And.intro) <;> first | exact kD | skip) | skip)
    ·exact cloneP_nilf
   refine kW ?_
   refine AK.ret ⟨_, rfl, ?_⟩
   rfl
  ·exact absurd (by simpa using hb) hk
theorem treeGet_o (v : V) (key : ByteArray) (ho : v.ord) (hsz : v.size ≤ 1000000000000) : AC Tryz.prog 93 [.agg [.int .i64 (v).kind, .bool (v).b, .int .i64 (v).n, .str (v).s, .lst .any 6 (rowsV (v).l), .lst .any 7 (rowsM (v).m)], .str key] (.tup [.agg [.int .i64 (((mfind key v.m).getD V.null)).kind, .bool (((mfind key v.m).getD V.null)).b, .int .i64 (((mfind key v.m).getD V.null)).n, .str (((mfind key v.m).getD V.null)).s, .lst .any 6 (rowsV (((mfind key v.m).getD V.null)).l), .lst .any 7 (rowsM (((mfind key v.m).getD V.null)).m)], .bool (mfind key v.m).isSome]) := by
 have hve := v.size_eq
 have hlm := len_le_sizeM v.m
 have hor := (V.ord_eq v).1 ho
 have hs := hor.2.2.1
 cases hf : mfind key v.m with
 | none =>
  refine kE Tryz.func93 a_tree_Get_ok a_tree_Get_cb fun E hE => ?_
  refine kW ?_
  refine kC (fun hb => ?_) fun hb => ?_
  ·refine kW ?_
   refine AK.ret ⟨_, rfl, ?_⟩
   rfl
  refine kW ?_
  refine kP [.v (.tup [.int .i64 (bpos key v.m : Nat), .bool (bfound key v.m)])] ?_ ?_
  ·((repeat' apply And.intro) <;> first | exact kD | (intro hgd; refine ⟨?_, kG⟩; (repeat' apply And.intro) <;> first | exact kD | skip) | skip)
   ·exact bsearch_a v.m key hs (by omega)
  rw [bfound_none hf]
  refine kW ?_
  refine kC (fun hb => ?_) fun hb => ?_
  ·refine kW ?_
   refine AK.ret ⟨_, rfl, ?_⟩
   rfl
  ·cases hb
 | some x =>
  obtain ⟨h1, h2⟩ := bfound_some hs hf
  have hxs := mfind_size hf
  refine kE Tryz.func93 a_tree_Get_ok a_tree_Get_cb fun E hE => ?_
  refine kW ?_
  refine kC (fun hb => ?_) fun hb => ?_
  ·have hk : v.kind ≠ 5 := by simpa using hb
   rw [hor.2.1 hk] at hf
   cases hf
  refine kW ?_
  refine kP [.v (.tup [.int .i64 (bpos key v.m : Nat), .bool (bfound key v.m)])] ?_ ?_
  ·((repeat' apply And.intro) <;> first | exact kD | (intro hgd; refine ⟨?_, kG⟩; (repeat' apply And.intro) <;> first | exact kD | skip) | skip)
   ·exact bsearch_a v.m key hs (by omega)
  rw [h2]
  refine kW ?_
  refine kC (fun hb => ?_) fun hb => ?_
  ·cases hb
  ·refine kW ?_
   refine kP [.c (.str key :: [.int .i64 (x).kind, .bool (x).b, .int .i64 (x).n, .str (x).s, .lst .any 6 (rowsV (x).l), .lst .any 7 (rowsM (x).m)]), .v (.agg [.int .i64 (x).kind, .bool (x).b, .int .i64 (x).n, .str (x).s, .lst .any 6 (rowsV (x).l), .lst .any 7 (rowsM (x).m)])] ?_ ?_
   ·((repeat' apply And.intro) <;> first | exact kD | (intro hgd; refine ⟨?_, kG⟩; (repeat' apply And.intro) <;> first | exact kD | skip) | skip)
    ·exact rowsM_at h1
    ·exact clone_ok x (by omega)
   refine kW ?_
   refine AK.ret ⟨_, rfl, ?_⟩
   rfl
theorem treeList_a : AC Tryz.prog 90 [.lst .any 6 []] (.agg [.int .i64 4, .bool false, .int .i64 0, .str ⟨#[]⟩, .lst .nil 6 [], .lst .nil 7 []]) := by
 refine AC.enterR Tryz.func90 a_tree_List_ok a_tree_List_cb (by rfl) fun E hE => ?_
 show AK _ _ _ [.c b_tree_List] _ _
 rw [b_tree_List]
 refine kW ?_
 refine AK.loopI (fun i : Nat => (frOf [(2, .ptr 2 0), (3, .ptr 3 0), (7, .lst .any 6 []), (8, .int .i64 0), (9, .int .i64 i)], ⟨boxOf [(2, [.int .i64 0, .bool false, .int .i64 0, .str ⟨#[]⟩, .lst .nil 6 [], .lst .nil 7 []], false), (3, [.int .i64 4, .bool false, .int .i64 0, .str ⟨#[]⟩, .lst .nil 6 [], .lst .nil 7 []], false)], fun _ => 0⟩)) (fun i => i ≤ 0) (fun i => 0 - i) 0 (by omega) (Weak.intro ⟨kI, kI, kI, kI, kI, trivial⟩ ⟨kJ, kJ, trivial⟩ rfl rfl) fun i hi => ?_
 refine kW ?_
 refine kC (fun hb => ?_) fun hb => ?_
 ·exfalso
  have : (i : Int) < 0 := by simpa using hb
  omega
 ·refine AK.exit rfl ?_
  refine kW ?_
  refine AK.ret ⟨_, rfl, ?_⟩
  rfl
def fA (r : V × Bs × Int) : AV := .tup [.agg [.int .i64 (r.1).kind, .bool (r.1).b, .int .i64 (r.1).n, .str (r.1).s, .lst .any 6 (rowsV (r.1).l), .lst .any 7 (rowsM (r.1).m)], .str (toB r.2.1), .int .i64 r.2.2]
def flowJ (n : Nat) : Bs → V × Bs × Int
 | [] => flowF n (.flow []) []
 | d :: u => if d = 93 then (vList [], tl u, 0) else flowF n (.flow []) (d :: u)
def bracJ (n : Nat) : Bs → V × Bs × Int
 | [] => flowF n (.braces []) []
 | d :: u => if d = 125 then (vMap [], tl u, 0) else flowF n (.braces []) (d :: u)
def flowI (n : Nat) (t : Bs) : V × Bs × Int := flowJ n (tl t)
def bracI (n : Nat) (t : Bs) : V × Bs × Int := bracJ n (tl t)
def head1 (c : UInt8) : Bs → Bool
 | [] => false
 | d :: _ => d == c
theorem has1_h (l : Bs) (c : UInt8) : AC Tryz.prog 34 [.str (toB l), .str ⟨#[c]⟩] (.bool (head1 c l)) := by
 have h := has_a (toB l) ⟨#[c]⟩
 rw [has1_toB] at h
 exact h
def OneOk (N : Nat) : Prop := ∀ (n : Nat) (ends s : Bs), s.length ≤ N → 2 * s.length + 1 ≤ n → AC Tryz.prog 95 [.str (toB s), .str (toB ends)] (fA (flowF n (.one ends) s))
theorem rowsV_snoc (l : List V) (x : V) : rowsV (l ++ [x]) = rowsV l ++ [cellsV x] := by
 induction l with
 | nil => simp [rowsV]
 | cons y l ih => simp [rowsV, ih]
theorem ext1 (c : UInt8) (u : Bs) : (toB (c :: u)).extract (1 : Int).toNat ((toB (c :: u)).size : Int).toNat = toB u := toB_from (c :: u) 1
theorem flow_a {N : Nat} (hP : OneOk N) (hN : N ≤ 1000000) (n : Nat) (t : Bs) (ht : t.length ≤ N) (hn : 2 * t.length + 2 ≤ n) : AC Tryz.prog 122 [.str (toB t)] (fA (flowI n t)) := by
 have hl := treeList_a
 have htl := tl_a t
 have htz := tl_len t
 have hp := has1_h (tl t) 93
 unfold flowI
 refine kE Tryz.func122 a_yaml_flow_ok a_yaml_flow_cb fun E hE => ?_
 refine kW ?_
 refine kQ [.v (.agg [.int .i64 4, .bool false, .int .i64 0, .str ⟨#[]⟩, .lst .nil 6 [], .lst .nil 7 []])] ?_
 refine kW ?_
 refine kQ [.v (.str (toB (tl t)))] ?_
 refine kW ?_
 generalize tl t = s0 at *
 refine kQ [.v (.bool (head1 93 s0))] ?_
 refine kC (fun hb => ?_) fun hb => ?_
 ·cases s0 with
  | nil => cases hb
  | cons d u =>
   have hd : d = 93 := by simpa [head1] using hb
   subst hd
   rw [flowJ, if_pos rfl]
   have h2 := tl_a u
   have hsz : (toB ((93 : UInt8) :: u)).size = u.length + 1 := rfl
   refine kW ?_
   refine kP [.v (.str (toB (tl u)))] ?_ ?_
   ·((repeat' apply And.intro) <;> first | exact kD | (intro hgd; refine ⟨?_, kG⟩; (repeat' apply And.intro) <;> first | exact kD | skip) | skip)
    all_goals first | (rw [hsz]; omega) | (rw [ext1]; exact h2) | skip
   refine kW ?_
   refine AK.ret ⟨_, rfl, ?_⟩
   rfl
 ·have hR : flowJ n s0 = flowF n (.flow []) s0 := by
   cases s0 with
   | nil => rfl
   | cons d u => exact if_neg (by simpa [head1] using hb)
  rw [hR]
  clear hR hb hp htl
  generalize hRR : flowF n (.flow []) s0 = R
  refine kW ?_
  refine AK.loopI (fun i : (Nat → Nat) × List V × Bs × Nat => (frOf [(0, .str (toB i.2.2.1)), (2, .ptr 2 0), (3, .str ⟨#[]⟩), (4, .int .i64 0), (5, .ptr 5 0)], ⟨boxOf [(2, [.int .i64 0, .bool false, .int .i64 0, .str ⟨#[]⟩, .lst .nil 6 [], .lst .nil 7 []], false), (5, [.int .i64 4, .bool false, .int .i64 0, .str ⟨#[]⟩, .lst (.own 32 (i.1 32)) 6 (rowsV i.2.1), .lst .nil 7 []], false)], i.1⟩))
   (fun i => flowF i.2.2.2 (.flow i.2.1) i.2.2.1 = R ∧ i.2.2.1.length ≤ N ∧ 2 * i.2.2.1.length + 2 ≤ i.2.2.2 ∧ sizeL i.2.1 + i.2.2.1.length ≤ N ∧ RdL i.2.1) (fun i => i.2.2.1.length) (fun _ => 0, [], s0, n) ⟨hRR, by dsimp only; omega, by dsimp only; omega, by dsimp only [sizeL]; omega, fun x hx => by cases hx⟩
   (Weak.intro ⟨kI, kI, kI, kI, kI, trivial⟩ ⟨kJ, ⟨_, rfl, .refl _, .refl _, .refl _, .refl _, .own _ _ _ _, .refl _, trivial⟩, trivial⟩ rfl rfl) fun ⟨r, out, s, m⟩ ⟨hR, hs, hm, hz, hrd⟩ => ?_
  dsimp only at hR hs hm hz hrd
  obtain ⟨m, rfl⟩ : ∃ k, m = k + 1 := ⟨m - 1, by omega⟩
  have hone := hP m [44, 93] s hs (by omega)
  have hok := flow_ok m (.one [44, 93]) s (by omega) (by simp only [FMsz]; omega) trivial
  have hunf : flowF (m + 1) (.flow out) s = (match flowF m (.one [44, 93]) s with
   | (v, rest, e) => if e ≠ 0 then (V.null, [], e) else match rest with
    | [] => (V.null, [], 10)
    | c :: u => if c = 93 then (vList (out ++ [v]), tl u, 0) else if c = 44 then flowF m (.flow (out ++ [v])) u else (V.null, [], 10)) := rfl
  rw [hunf] at hR
  generalize flowF m (.one [44, 93]) s = q at *
  obtain ⟨v, rest, e⟩ := q
  dsimp only at hR
  refine kW ?_
  refine kQ [.v (fA (v, rest, e))] ?_
  refine kW ?_
  refine kC (fun hb => ?_) fun hb => ?_
  ·have he : e ≠ 0 := by simpa using hb
   rw [if_pos he] at hR
   refine kW ?_
   refine AK.ret ⟨_, rfl, ?_⟩
   rw [← hR]
   rfl
  ·have he : e = 0 := by simpa using hb
   subst he
   rw [if_neg (by simp)] at hR
   have hf := hok.fit rfl
   simp only [FMsz] at hf
   have hll := len_le_sizeL out
   have hv1 := v.size_pos
   have hp1 := has1_h rest 93
   have hp2 := has1_h rest 44
   have hsz1 : sizeL (out ++ [v]) = sizeL out + v.size := by rw [sizeL_append]; simp [sizeL]
   refine kW ?_
   refine kP [] ?_ ?_
   ·((repeat' apply And.intro) <;> first | exact kD | (intro hgd; refine ⟨?_, kG⟩; (repeat' apply And.intro) <;> first | exact kD | skip) | skip)
    all_goals simp only [rowsV_len, List.length_nil, List.length_cons]
    all_goals omega
   refine kW ?_
   refine kQ [.v (.bool (head1 93 rest))] ?_
   cases rest with
   | nil =>
    refine kC (fun hb => ?_) fun hb => ?_
    ·cases hb
    ·refine kW ?_
     refine kQ [.v (.bool false)] ?_
     refine kW ?_
     refine kC (fun hb => ?_) fun hb => ?_
     ·refine kW ?_
      refine AK.ret ⟨_, rfl, ?_⟩
      rw [← hR]
      rfl
     ·simp at hb
   | cons c u =>
    have hsz : (toB (c :: u)).size = u.length + 1 := rfl
    have h2 := tl_a u
    simp only [List.length_cons] at hf
    dsimp only at hR
    refine kC (fun hb => ?_) fun hb => ?_
    ·have hc : c = 93 := by simpa [head1] using hb
     rw [if_pos hc] at hR
     refine kW ?_
     refine kP [.v (.str (toB (tl u)))] ?_ ?_
     ·((repeat' apply And.intro) <;> first | exact kD | (intro hgd; refine ⟨?_, kG⟩; (repeat' apply And.intro) <;> first | exact kD | skip) | skip)
      all_goals first | (rw [hsz]; omega) | (rw [ext1]; exact h2) | skip
     refine kW ?_
     refine AK.ret ⟨_, rfl, ?_⟩
     rw [← hR]
     have e1 := rowsV_snoc out v
     rw [cellsV_eq] at e1
     show _ = AV.tup [.agg [_, _, _, _, .lst .any 6 (rowsV (out ++ [v])), _], _, _]
     rw [e1]
     rfl
    ·have hc : c ≠ 93 := by simpa [head1] using hb
     rw [if_neg hc] at hR
     refine kW ?_
     refine kQ [.v (.bool (c == 44))] ?_
     by_cases h44 : c = 44
     ·rw [if_pos h44] at hR
      refine kW ?_
      refine kC (fun hb => ?_) fun hb => ?_
      ·simp [h44] at hb
      ·refine kW ?_
       refine kP [] ?_ ?_
       ·((repeat' apply And.intro) <;> first | exact kD | (intro hgd; refine ⟨?_, kG⟩; (repeat' apply And.intro) <;> first | exact kD | skip) | skip)
        all_goals (rw [hsz]; omega)
       refine kW ?_
       rw [ext1]
       refine AK.lp ⟨(_, out ++ [v], u, m), ⟨hR, by dsimp only; omega, by dsimp only; omega, by dsimp only; omega, hrd.snoc hok.ord hok.sb⟩, (Weak.intro ⟨kI, kI, kI, kI, kI, trivial⟩ ⟨kJ, ⟨_, rfl, .refl _, .refl _, .refl _, .refl _, ?_, .refl _, trivial⟩, trivial⟩ rfl rfl), by dsimp only; omega⟩
       rw [rowsV_snoc, cellsV_eq]
       exact .refl _
     ·rw [if_neg h44] at hR
      refine kW ?_
      refine kC (fun hb => ?_) fun hb => ?_
      ·refine kW ?_
       refine AK.ret ⟨_, rfl, ?_⟩
       rw [← hR]
       rfl
      ·simp [h44] at hb
theorem cpIn_a (s p : ByteArray) : AC Tryz.prog 156 [.str s, .str p] (.tup [.str (cutS s p), .bool (hasB s p)]) := by
 have h := hasIn_a s p
 refine kE Tryz.func156 a_stringslite_CutPrefix_ok a_stringslite_CutPrefix_cb fun E hE => ?_
 refine kW ?_
 refine kQ [.v (.bool (hasB s p))] ?_
 refine kW ?_
 refine kC (fun hb => ?_) fun hb => ?_
 ·have hq : hasB s p = false := by simpa using hb
  refine kW ?_
  refine AK.ret ⟨_, rfl, ?_⟩
  rw [cutS, if_neg (by rw [hq]; simp), hq]
  rfl
 ·have hq : hasB s p = true := by simpa using hb
  have hle : p.size ≤ s.size := by
   rw [hasB, Bool.and_eq_true, decide_eq_true_eq] at hq
   exact hq.1
  refine kW ?_
  refine kQ [] ?_
  refine kW ?_
  refine AK.ret ⟨_, rfl, ?_⟩
  rw [cutS, if_pos hq, hq]
  rfl
theorem cp_a (s p : ByteArray) : AC Tryz.prog 141 [.str s, .str p] (.tup [.str (cutS s p), .bool (hasB s p)]) := by
 have h := cpIn_a s p
 refine kE Tryz.func141 a_strings_CutPrefix_ok a_strings_CutPrefix_cb fun E hE => ?_
 refine kW ?_
 refine kQ [.v (.tup [.str (cutS s p), .bool (hasB s p)])] ?_
 refine kW ?_
 refine AK.ret ⟨_, rfl, ?_⟩
 rfl
theorem cutS_cons (c : UInt8) (l : Bs) (h : head1 c l = true) : ∃ u, l = c :: u ∧ cutS (toB l) ⟨#[c]⟩ = toB u := by
 cases l with
 | nil => cases h
 | cons d u =>
  have hd : d = c := by simpa [head1] using h
  subst hd
  refine ⟨u, rfl, ?_⟩
  rw [cutS, if_pos (by rw [has1_toB]; simp)]
  exact toB_from (d :: u) 1
theorem contains1 (l : Bs) (c : UInt8) (hl : l.length ≤ 1000000) : AC Tryz.prog 124 [.str (toB l), .str ⟨#[c]⟩] (.bool (l.contains c)) := by
 have h : AC Tryz.prog 124 [.str (toB l), .str ⟨#[c]⟩] (.bool (decide (0 ≤ Lib.indexByte l c))) := AC.of2 (by kernel_rfl) (fun _ => Rel1.bool _) fun w _ => Tryz.strings_Contains_one (toB l) c w
 rw [ix_mem] at h
 exact h
theorem cut1_a (l : Bs) (hl : l.length ≤ 1000000) : AC Tryz.prog 140 [.str (toB l), .str ⟨#[58]⟩] (if Lib.indexByte l 58 = -1 then .tup [.str (toB l), .str (toB []), .bool false] else .tup [.str (toB (l.take (Lib.indexByte l 58).toNat)), .str (toB (l.drop ((Lib.indexByte l 58).toNat + 1))), .bool true]) := by
 have h := cut_a (toB l) 58 (by rw [toB_size]; omega)
 rw [cutB, toB_list] at h
 rcases ixT_cases l 58 with ⟨h1, _⟩ | ⟨i, h1, h2, _⟩
 ·rw [h1] at h ⊢
  rw [if_pos rfl] at h ⊢
  exact h
 ·rw [h1] at h ⊢
  rw [if_neg (by omega)] at h ⊢
  simp only [Int.toNat_natCast] at h ⊢
  rw [toB_to l i (by omega), toB_from] at h
  exact h
def bracK (m : Nat) (out : List (ByteArray × V)) : Bs × Bs × Int → V × Bs × Int
 | (key, rest, k) => if k ≠ 0 then (V.null, [], k) else if (mfind (toB key) out).isSome = true then (V.null, [], 13) else match flowF m (.one [44, 125]) rest with
  | (v, more, e) => if e ≠ 0 then (V.null, [], e) else match more with
   | [] => (V.null, [], 10)
   | c :: u => if c = 125 then (vMap (minsert (toB key) v out), tl u, 0) else if c = 44 then flowF m (.braces (minsert (toB key) v out)) u else (V.null, [], 10)
theorem braces_a {N : Nat} (hP : OneOk N) (hN : N ≤ 1000000) (n : Nat) (t : Bs) (ht : t.length ≤ N) (hn : 2 * t.length + 2 ≤ n) : AC Tryz.prog 123 [.str (toB t)] (fA (bracI n t)) := by
 have hmm := treeMap_a [] (by simp [sizeM])
 have htl := tl_a t
 have htz := tl_len t
 have hp := has1_h (tl t) 125
 unfold bracI
 refine kE Tryz.func123 a_yaml_braces_ok a_yaml_braces_cb fun E hE => ?_
 refine kW ?_
 refine kQ [.v (.agg [.int .i64 ((vMap [])).kind, .bool ((vMap [])).b, .int .i64 ((vMap [])).n, .str ((vMap [])).s, .lst .any 6 (rowsV ((vMap [])).l), .lst .any 7 (rowsM ((vMap [])).m)])] ?_
 refine kW ?_
 refine kQ [.v (.str (toB (tl t)))] ?_
 refine kW ?_
 generalize tl t = s0 at *
 refine kQ [.v (.bool (head1 125 s0))] ?_
 refine kC (fun hb => ?_) fun hb => ?_
 ·cases s0 with
  | nil => cases hb
  | cons d u =>
   have hd : d = 125 := by simpa [head1] using hb
   subst hd
   rw [bracJ, if_pos rfl]
   have h2 := tl_a u
   have hsz : (toB ((125 : UInt8) :: u)).size = u.length + 1 := rfl
   refine kW ?_
   refine kP [.v (.str (toB (tl u)))] ?_ ?_
   ·((repeat' apply And.intro) <;> first | exact kD | (intro hgd; refine ⟨?_, kG⟩; (repeat' apply And.intro) <;> first | exact kD | skip) | skip)
    all_goals first | (rw [hsz]; omega) | (rw [ext1]; exact h2) | skip
   refine kW ?_
   refine AK.ret ⟨_, rfl, ?_⟩
   rfl
 ·have hR : bracJ n s0 = flowF n (.braces []) s0 := by
   cases s0 with
   | nil => rfl
   | cons d u => exact if_neg (by simpa [head1] using hb)
  rw [hR]
  clear hR hb hp htl
  generalize hRR : flowF n (.braces []) s0 = R
  refine kW ?_
  refine AK.loopI (fun i : List (ByteArray × V) × Bs × Nat => (frOf [(0, .str (toB i.2.1)), (2, .ptr 2 0), (3, .str ⟨#[]⟩), (4, .int .i64 0), (5, .ptr 5 0)], ⟨boxOf [(2, [.int .i64 0, .bool false, .int .i64 0, .str ⟨#[]⟩, .lst .nil 6 [], .lst .nil 7 []], false), (5, [.int .i64 ((vMap i.1)).kind, .bool ((vMap i.1)).b, .int .i64 ((vMap i.1)).n, .str ((vMap i.1)).s, .lst .any 6 (rowsV ((vMap i.1)).l), .lst .any 7 (rowsM ((vMap i.1)).m)], false)], fun _ => 0⟩))
   (fun i => flowF i.2.2 (.braces i.1) i.2.1 = R ∧ i.2.1.length ≤ N ∧ 2 * i.2.1.length + 2 ≤ i.2.2 ∧ sizeM i.1 + i.2.1.length ≤ N ∧ RdM i.1) (fun i => i.2.1.length) ([], s0, n) ⟨hRR, by dsimp only; omega, by dsimp only; omega, by dsimp only [sizeM]; omega, List.Pairwise.nil, fun x hx => by cases hx⟩
   (Weak.intro ⟨kI, kI, kI, kI, kI, trivial⟩ ⟨kJ, kJ, trivial⟩ rfl rfl) fun ⟨out, s, m⟩ ⟨hR, hs, hm, hz, hrd⟩ => ?_
  dsimp only at hR hs hm hz hrd
  obtain ⟨m, rfl⟩ : ∃ k, m = k + 1 := ⟨m - 1, by omega⟩
  have htl := tl_a s
  have htz2 := tl_len s
  have hunf : flowF (m + 1) (.braces out) s = bracK m out (keyF (tl s)) := rfl
  rw [hunf] at hR
  clear hunf
  refine kW ?_
  refine kQ [.v (.str (toB (tl s)))] ?_
  refine kW ?_
  generalize tl s = s1 at *
  have hs1 : s1.length ≤ 1000000 := by omega
  have hct := cut1_a s1 hs1
  have hu := unquote_a (toB s1) (by rw [toB_size]; omega)
  rw [unq_eq, toB_list] at hu
  have hq := quoted_b s1
  obtain ⟨a, b, ok, hab, hct⟩ : ∃ a b ok, (if Lib.indexByte s1 58 = -1 then AV.tup [.str (toB s1), .str (toB []), .bool false] else .tup [.str (toB (s1.take (Lib.indexByte s1 58).toNat)), .str (toB (s1.drop ((Lib.indexByte s1 58).toNat + 1))), .bool true]) = .tup [.str (toB a), .str (toB b), .bool ok] ∧ (a.length ≤ s1.length ∧ AC Tryz.prog 140 [.str (toB s1), .str ⟨#[58]⟩] (.tup [.str (toB a), .str (toB b), .bool ok])) := by
   split
   ·rename_i hi; rw [if_pos hi] at hct; exact ⟨_, _, _, rfl, Nat.le_refl _, hct⟩
   ·rename_i hi; rw [if_neg hi] at hct; exact ⟨_, _, _, rfl, by rw [List.length_take]; omega, hct⟩
  obtain ⟨hal, hct⟩ := hct
  have htr := tr_a a (by omega)
  have hod := odd_a (tr a)
  have htrz := tr_len a
  have hc1 := contains1 (tr a) 44 (by omega)
  have hc2 := contains1 (tr a) 93 (by omega)
  have hc3 := contains1 (tr a) 125 (by omega)
  refine kQ [.v (.tup [.str (toB a), .str (toB b), .bool ok])] ?_
  refine kW ?_
  refine kQ [.v (.str (toB (tr a)))] ?_
  refine kW ?_
  refine kP [] ?_ ?_
  ·((repeat' apply And.intro) <;> first | exact kD | (intro hgd; refine ⟨?_, kG⟩; (repeat' apply And.intro) <;> first | exact kD | skip) | skip)
   all_goals
    cases s1 with
    | nil => simp [gd, ne_toB] at hgd
    | cons c l => rw [toB_size, List.length_cons]; omega
  refine kC (fun hb => ?_) fun hb => ?_
  ·rw [hq] at hb
   have hqt := hb
   refine kW ?_
   cases hx : unqL s1 with
   | none =>
    have hkf : keyF s1 = ([], [], 11) := by rw [keyF, if_pos hqt, hx]
    rw [hkf, bracK, if_pos (by decide)] at hR
    rw [hx] at hu
    simp only [qA] at hu
    refine kQ [.v (.tup [.str ⟨#[]⟩, .str ⟨#[]⟩, .int .i64 11])] ?_
    refine kW ?_
    refine kC (fun hb => ?_) fun hb => ?_
    ·refine kW ?_
     refine AK.ret ⟨_, rfl, ?_⟩
     rw [← hR]
     rfl
    ·simp at hb
   | some p =>
    obtain ⟨key, rest⟩ := p
    rw [hx] at hu
    simp only [qA] at hu
    have hz2 := unq_len hx
    have hcp := cp_a (toB rest) ⟨#[58]⟩
    refine kQ [.v (.tup [.str ⟨key.toArray⟩, .str ⟨rest.toArray⟩, .int .i64 0])] ?_
    refine kW ?_
    refine kC (fun hb => ?_) fun hb => ?_
    ·simp at hb
    ·refine kW ?_
     cases hh : head1 58 rest with
     | false =>
      have hh2 : hasB (toB rest) ⟨#[58]⟩ = false := by rw [has1_toB]; exact hh
      rw [hh2] at hcp
      have hkf : keyF s1 = ([], [], 10) := by
       rw [keyF, if_pos hqt, hx]
       cases rest with
       | nil => rfl
       | cons c r => simp [show ¬ c = 58 by simpa [head1] using hh]
      rw [hkf, bracK, if_pos (by decide)] at hR
      refine kQ [.v (.tup [.str (cutS (toB rest) ⟨#[58]⟩), .bool false])] ?_
      refine kW ?_
      refine kC (fun hb => ?_) fun hb => ?_
      ·refine kW ?_
       refine AK.ret ⟨_, rfl, ?_⟩
       rw [← hR]
       rfl
      ·simp at hb
     | true =>
      obtain ⟨u, rfl, hcu⟩ := cutS_cons 58 rest hh
      have hh2 : hasB (toB (58 :: u)) ⟨#[58]⟩ = true := by rw [has1_toB]; simp
      rw [hh2, hcu] at hcp
      simp only [List.length_cons] at hz2
      have hkf : keyF s1 = (key, u, 0) := by rw [keyF, if_pos hqt, hx]; simp
      rw [hkf, bracK, if_neg (by simp)] at hR
      refine kQ [.v (.tup [.str (toB u), .bool true])] ?_
      clear hcp hh hh2 hcu hu hct htr hod hc1 hc2 hc3 hq hkf hx hb
      generalize hrest : u = rest at *
      have hgt := treeGet_o (vMap out) (toB key) (vMap_ord hrd.1 fun p hp => (hrd.2 p hp).2.1) (by rw [vMap_size]; omega)
      refine kW ?_
      refine kC (fun hb => ?_) fun hb => ?_
      ·simp at hb
      ·refine kW ?_
       refine kQ [.v (.tup [.agg [.int .i64 (((mfind (toB key) out).getD V.null)).kind, .bool (((mfind (toB key) out).getD V.null)).b, .int .i64 (((mfind (toB key) out).getD V.null)).n, .str (((mfind (toB key) out).getD V.null)).s, .lst .any 6 (rowsV (((mfind (toB key) out).getD V.null)).l), .lst .any 7 (rowsM (((mfind (toB key) out).getD V.null)).m)], .bool (mfind (toB key) out).isSome])] ?_
       refine kW ?_
       refine kC (fun hb => ?_) fun hb => ?_
       ·rw [if_pos hb] at hR
        refine kW ?_
        refine AK.ret ⟨_, rfl, ?_⟩
        rw [← hR]
        rfl
       ·rw [if_neg (by rw [hb]; simp)] at hR
        have hone := hP m [44, 125] rest (by omega) (by omega)
        have hok := flow_ok m (.one [44, 125]) rest (by omega) (by simp only [FMsz]; omega) trivial
        generalize flowF m (.one [44, 125]) rest = q at *
        obtain ⟨v, more, e⟩ := q
        dsimp only at hR
        refine kW ?_
        refine kQ [.v (fA (v, more, e))] ?_
        refine kW ?_
        refine kC (fun hb => ?_) fun hb => ?_
        ·have he : e ≠ 0 := by simpa using hb
         rw [if_pos he] at hR
         refine kW ?_
         refine AK.ret ⟨_, rfl, ?_⟩
         rw [← hR]
         rfl
        ·have he : e = 0 := by simpa using hb
         subst he
         rw [if_neg (by simp)] at hR
         have hf := hok.fit rfl
         simp only [FMsz] at hf
         have hv1 := v.size_pos
         have hp1 := has1_h more 125
         have hp2 := has1_h more 44
         have hpt := treePut_o (vMap out) (toB key) v (vMap_ord hrd.1 fun p hp => (hrd.2 p hp).2.1) (by rw [vMap_size]; omega)
         have hms := minsert_le (toB key) v out
         have hrd2 := hrd.put (k := toB key) (x := v) (by rw [toB_size]; omega) hok.ord hok.sb
         refine kW ?_
         refine kQ [.v (.agg [.int .i64 ((vMap (minsert (toB key) v out))).kind, .bool ((vMap (minsert (toB key) v out))).b, .int .i64 ((vMap (minsert (toB key) v out))).n, .str ((vMap (minsert (toB key) v out))).s, .lst .any 6 (rowsV ((vMap (minsert (toB key) v out))).l), .lst .any 7 (rowsM ((vMap (minsert (toB key) v out))).m)])] ?_
         refine kW ?_
         refine kQ [.v (.bool (head1 125 more))] ?_
         cases more with
         | nil =>
          refine kC (fun hb => ?_) fun hb => ?_
          ·cases hb
          ·refine kW ?_
           refine kQ [.v (.bool false)] ?_
           refine kW ?_
           refine kC (fun hb => ?_) fun hb => ?_
           ·refine kW ?_
            refine AK.ret ⟨_, rfl, ?_⟩
            rw [← hR]
            rfl
           ·simp at hb
         | cons c u =>
          have hsz : (toB (c :: u)).size = u.length + 1 := rfl
          have h2 := tl_a u
          simp only [List.length_cons] at hf
          dsimp only at hR
          refine kC (fun hb => ?_) fun hb => ?_
          ·have hc : c = 125 := by simpa [head1] using hb
           rw [if_pos hc] at hR
           refine kW ?_
           refine kP [.v (.str (toB (tl u)))] ?_ ?_
           ·((repeat' apply And.intro) <;> first | exact kD | (intro hgd; refine ⟨?_, kG⟩; (repeat' apply And.intro) <;> first | exact kD | skip) | skip)
            all_goals first | (rw [hsz]; omega) | (rw [ext1]; exact h2) | skip
           refine kW ?_
           refine AK.ret ⟨_, rfl, ?_⟩
           rw [← hR]
           rfl
          ·have hc : c ≠ 125 := by simpa [head1] using hb
           rw [if_neg hc] at hR
           refine kW ?_
           refine kQ [.v (.bool (c == 44))] ?_
           by_cases h44 : c = 44
           ·rw [if_pos h44] at hR
            refine kW ?_
            refine kC (fun hb => ?_) fun hb => ?_
            ·simp [h44] at hb
            ·refine kW ?_
             refine kP [] ?_ ?_
             ·((repeat' apply And.intro) <;> first | exact kD | (intro hgd; refine ⟨?_, kG⟩; (repeat' apply And.intro) <;> first | exact kD | skip) | skip)
              all_goals (rw [hsz]; omega)
             refine kW ?_
             rw [ext1]
             exact AK.lp ⟨(minsert (toB key) v out, u, m), ⟨hR, by dsimp only; omega, by dsimp only; omega, by dsimp only; omega, hrd2⟩, (Weak.intro ⟨kI, kI, kI, kI, kI, trivial⟩ ⟨kJ, kJ, trivial⟩ rfl rfl), by dsimp only; omega⟩
           ·rw [if_neg h44] at hR
            refine kW ?_
            refine kC (fun hb => ?_) fun hb => ?_
            ·refine kW ?_
             refine AK.ret ⟨_, rfl, ?_⟩
             rw [← hR]
             rfl
            ·simp [h44] at hb
  ·rw [hq] at hb
   have hnq : ¬ quoted s1 = true := by rw [hb]; simp
   have hkf : keyF s1 = if Lib.indexByte s1 58 = -1 then ([], [], 10) else if ((tr (s1.take (Lib.indexByte s1 58).toNat)).isEmpty || oddL (tr (s1.take (Lib.indexByte s1 58).toNat)) || (tr (s1.take (Lib.indexByte s1 58).toNat)).contains 44 || (tr (s1.take (Lib.indexByte s1 58).toNat)).contains 93 || (tr (s1.take (Lib.indexByte s1 58).toNat)).contains 125) = true then ([], [], 10) else (tr (s1.take (Lib.indexByte s1 58).toNat), s1.drop ((Lib.indexByte s1 58).toNat + 1), 0) := by rw [keyF, if_neg hnq]
   have hkr := keyF_len (s := s1) (key := tr a) (rest := b)
   refine kW ?_
   refine kQ [.v (.bool (oddL (tr a))), .v (.bool ((tr a).contains 44)), .v (.bool ((tr a).contains 93)), .v (.bool ((tr a).contains 125))] ?_
   refine kC (fun hb => ?_) fun hb => ?_
   ·rw [ne_toB] at hb
    have hkf2 : keyF s1 = ([], [], 10) := by
     rw [hkf]
     split at hab
     ·rename_i hi; rw [if_pos hi]
     ·rename_i hi
      rw [if_neg hi]
      injection hab with hab
      injection hab with h1 hab
      injection h1 with h1
      have h1 := toB_inj.1 h1
      rw [h1, if_pos hb]
    rw [hkf2, bracK, if_pos (by decide)] at hR
    refine kW ?_
    refine kC (fun hb => ?_) fun hb => ?_
    ·refine kW ?_
     refine AK.ret ⟨_, rfl, ?_⟩
     rw [← hR]
     rfl
    ·simp at hb
   ·rw [ne_toB] at hb
    split at hab
    ·rename_i hi
     rw [if_pos hi] at hkf
     rw [hkf, bracK, if_pos (by decide)] at hR
     injection hab with hab
     injection hab with h1 hab
     injection hab with h2 hab
     injection hab with h3 hab
     injection h3 with h3
     subst h3
     refine kW ?_
     refine kC (fun hb => ?_) fun hb => ?_
     ·refine kW ?_
      refine AK.ret ⟨_, rfl, ?_⟩
      rw [← hR]
      rfl
     ·simp at hb
    ·rename_i hi
     rw [if_neg hi] at hkf
     injection hab with hab
     injection hab with h1 hab
     injection hab with h2 hab
     injection hab with h3 hab
     injection h1 with h1
     injection h2 with h2
     injection h3 with h3
     have h1 := toB_inj.1 h1
     have h2 := toB_inj.1 h2
     subst h3
     rw [h1, h2, if_neg (by rw [hb]; simp)] at hkf
     have hkl := hkr hkf
     rw [hkf, bracK, if_neg (by simp)] at hR
     clear hu hct htr hod hc1 hc2 hc3 hq hkf hkr hb h1 h2 hi
     generalize tr a = key at *
     generalize hrest : b = rest at *
     have hgt := treeGet_o (vMap out) (toB key) (vMap_ord hrd.1 fun p hp => (hrd.2 p hp).2.1) (by rw [vMap_size]; omega)
     refine kW ?_
     refine kC (fun hb => ?_) fun hb => ?_
     ·simp at hb
     ·refine kW ?_
      refine kQ [.v (.tup [.agg [.int .i64 (((mfind (toB key) out).getD V.null)).kind, .bool (((mfind (toB key) out).getD V.null)).b, .int .i64 (((mfind (toB key) out).getD V.null)).n, .str (((mfind (toB key) out).getD V.null)).s, .lst .any 6 (rowsV (((mfind (toB key) out).getD V.null)).l), .lst .any 7 (rowsM (((mfind (toB key) out).getD V.null)).m)], .bool (mfind (toB key) out).isSome])] ?_
      refine kW ?_
      refine kC (fun hb => ?_) fun hb => ?_
      ·rw [if_pos hb] at hR
       refine kW ?_
       refine AK.ret ⟨_, rfl, ?_⟩
       rw [← hR]
       rfl
      ·rw [if_neg (by rw [hb]; simp)] at hR
       have hone := hP m [44, 125] rest (by omega) (by omega)
       have hok := flow_ok m (.one [44, 125]) rest (by omega) (by simp only [FMsz]; omega) trivial
       generalize flowF m (.one [44, 125]) rest = q at *
       obtain ⟨v, more, e⟩ := q
       dsimp only at hR
       refine kW ?_
       refine kQ [.v (fA (v, more, e))] ?_
       refine kW ?_
       refine kC (fun hb => ?_) fun hb => ?_
       ·have he : e ≠ 0 := by simpa using hb
        rw [if_pos he] at hR
        refine kW ?_
        refine AK.ret ⟨_, rfl, ?_⟩
        rw [← hR]
        rfl
       ·have he : e = 0 := by simpa using hb
        subst he
        rw [if_neg (by simp)] at hR
        have hf := hok.fit rfl
        simp only [FMsz] at hf
        have hv1 := v.size_pos
        have hp1 := has1_h more 125
        have hp2 := has1_h more 44
        have hpt := treePut_o (vMap out) (toB key) v (vMap_ord hrd.1 fun p hp => (hrd.2 p hp).2.1) (by rw [vMap_size]; omega)
        have hms := minsert_le (toB key) v out
        have hrd2 := hrd.put (k := toB key) (x := v) (by rw [toB_size]; omega) hok.ord hok.sb
        refine kW ?_
        refine kQ [.v (.agg [.int .i64 ((vMap (minsert (toB key) v out))).kind, .bool ((vMap (minsert (toB key) v out))).b, .int .i64 ((vMap (minsert (toB key) v out))).n, .str ((vMap (minsert (toB key) v out))).s, .lst .any 6 (rowsV ((vMap (minsert (toB key) v out))).l), .lst .any 7 (rowsM ((vMap (minsert (toB key) v out))).m)])] ?_
        refine kW ?_
        refine kQ [.v (.bool (head1 125 more))] ?_
        cases more with
        | nil =>
         refine kC (fun hb => ?_) fun hb => ?_
         ·cases hb
         ·refine kW ?_
          refine kQ [.v (.bool false)] ?_
          refine kW ?_
          refine kC (fun hb => ?_) fun hb => ?_
          ·refine kW ?_
           refine AK.ret ⟨_, rfl, ?_⟩
           rw [← hR]
           rfl
          ·simp at hb
        | cons c u =>
         have hsz : (toB (c :: u)).size = u.length + 1 := rfl
         have h2 := tl_a u
         simp only [List.length_cons] at hf
         dsimp only at hR
         refine kC (fun hb => ?_) fun hb => ?_
         ·have hc : c = 125 := by simpa [head1] using hb
          rw [if_pos hc] at hR
          refine kW ?_
          refine kP [.v (.str (toB (tl u)))] ?_ ?_
          ·((repeat' apply And.intro) <;> first | exact kD | (intro hgd; refine ⟨?_, kG⟩; (repeat' apply And.intro) <;> first | exact kD | skip) | skip)
           all_goals first | (rw [hsz]; omega) | (rw [ext1]; exact h2) | skip
          refine kW ?_
          refine AK.ret ⟨_, rfl, ?_⟩
          rw [← hR]
          rfl
         ·have hc : c ≠ 125 := by simpa [head1] using hb
          rw [if_neg hc] at hR
          refine kW ?_
          refine kQ [.v (.bool (c == 44))] ?_
          by_cases h44 : c = 44
          ·rw [if_pos h44] at hR
           refine kW ?_
           refine kC (fun hb => ?_) fun hb => ?_
           ·simp [h44] at hb
           ·refine kW ?_
            refine kP [] ?_ ?_
            ·((repeat' apply And.intro) <;> first | exact kD | (intro hgd; refine ⟨?_, kG⟩; (repeat' apply And.intro) <;> first | exact kD | skip) | skip)
             all_goals (rw [hsz]; omega)
            refine kW ?_
            rw [ext1]
            exact AK.lp ⟨(minsert (toB key) v out, u, m), ⟨hR, by dsimp only; omega, by dsimp only; omega, by dsimp only; omega, hrd2⟩, (Weak.intro ⟨kI, kI, kI, kI, kI, trivial⟩ ⟨kJ, kJ, trivial⟩ rfl rfl), by dsimp only; omega⟩
          ·rw [if_neg h44] at hR
           refine kW ?_
           refine kC (fun hb => ?_) fun hb => ?_
           ·refine kW ?_
            refine AK.ret ⟨_, rfl, ?_⟩
            rw [← hR]
            rfl
           ·simp [h44] at hb
def oneK (m : Nat) (ends : Bs) : Bs → V × Bs × Int
 | [] => (V.null, [], 10)
 | c :: t => if c = 91 then flowI m t else if c = 123 then bracI m t else if isQ c = true then (match unqL (c :: t) with
   | none => (V.str ⟨#[]⟩, [], 11)
   | some (x, rest) => (V.str (toB x), tl rest, 0))
  else if badWord (tr ((c :: t).take (endAt ends (c :: t)))) = true then (V.null, [], 10)
  else ((scalP (toB (tr ((c :: t).take (endAt ends (c :: t)))))).1, (c :: t).drop (endAt ends (c :: t)), (scalP (toB (tr ((c :: t).take (endAt ends (c :: t)))))).2)
theorem oneK_eq (m : Nat) (ends s : Bs) : flowF (m + 1) (.one ends) s = oneK m ends (tl s) := by
 rw [flowF]
 generalize tl s = s1
 cases s1 with
 | nil => rfl
 | cons c t =>
  simp only [oneK, flowI, bracI]
  split
  ·generalize tl t = u
   cases u <;> rfl
  ·split
   ·generalize tl t = u
    cases u <;> rfl
   ·rfl
theorem tw_len (p : UInt8 → Bool) : ∀ (l : Bs) (i : Nat), i ≤ l.length → (∀ j c, j < i → l[j]? = some c → p c = true) → (∀ c, l[i]? = some c → p c = false) → (l.takeWhile p).length = i
 | [], i, h, _, _ => by simp at h; subst h; rfl
 | d :: l, 0, _, _, h2 => by rw [List.takeWhile_cons, if_neg (by rw [h2 d rfl]; simp)]; rfl
 | d :: l, i + 1, h, h1, h2 => by
  rw [List.takeWhile_cons, if_pos (h1 0 d (by omega) rfl), List.length_cons, tw_len p l i (by simpa using h) (fun j c hj hc => h1 (j + 1) c (by omega) (by simpa using hc)) (fun c hc => h2 c (by simpa using hc))]
theorem one_step (s ends : Bs) (n : Nat) (hs : s.length ≤ 1000000) (hn : 2 * s.length + 1 ≤ n) (hF : ∀ n t, t.length < s.length → 2 * t.length + 2 ≤ n → AC Tryz.prog 122 [.str (toB t)] (fA (flowI n t)))
  (hB : ∀ n t, t.length < s.length → 2 * t.length + 2 ≤ n → AC Tryz.prog 123 [.str (toB t)] (fA (bracI n t))) : AC Tryz.prog 95 [.str (toB s), .str (toB ends)] (fA (flowF n (.one ends) s)) := by
 obtain ⟨m, rfl⟩ : ∃ k, n = k + 1 := ⟨n - 1, by omega⟩
 rw [oneK_eq]
 have htl := tl_a s
 have htz := tl_len s
 refine kE Tryz.func95 a_yaml_one_ok a_yaml_one_cb fun E hE => ?_
 refine kW ?_
 refine kQ [.v (.str (toB (tl s)))] ?_
 refine kW ?_
 generalize tl s = s1 at *
 have hs1 : s1.length ≤ 1000000 := by omega
 generalize hR : oneK m ends s1 = R
 have hp1 := has1_h s1 91
 have hp2 := has1_h s1 123
 refine kQ [.v (.bool (head1 91 s1))] ?_
 refine kW ?_
 refine kC (fun hb => ?_) fun hb => ?_
 ·cases s1 with
  | nil => cases hb
  | cons c t =>
   have hc : c = 91 := by simpa [head1] using hb
   simp only [List.length_cons] at htz
   rw [oneK, if_pos hc] at hR
   have hf := hF m t (by omega) (by omega)
   have hsz : (toB (c :: t)).size = t.length + 1 := rfl
   refine kW ?_
   refine kP [.v (fA (flowI m t))] ?_ ?_
   ·((repeat' apply And.intro) <;> first | exact kD | (intro hgd; refine ⟨?_, kG⟩; (repeat' apply And.intro) <;> first | exact kD | skip) | skip)
    all_goals first | (rw [hsz]; omega) | (rw [ext1]; exact hf) | skip
   refine kW ?_
   refine AK.ret ⟨_, rfl, ?_⟩
   rw [← hR]
   rfl
 ·have hb1 := hb
  refine kW ?_
  refine kQ [.v (.bool (head1 123 s1))] ?_
  refine kW ?_
  refine kC (fun hb => ?_) fun hb => ?_
  ·cases s1 with
   | nil => cases hb
   | cons c t =>
    have hc : c = 123 := by simpa [head1] using hb
    have hc1 : ¬ c = 91 := by simpa [head1] using hb1
    simp only [List.length_cons] at htz
    rw [oneK, if_neg hc1, if_pos hc] at hR
    have hf := hB m t (by omega) (by omega)
    have hsz : (toB (c :: t)).size = t.length + 1 := rfl
    refine kW ?_
    refine kP [.v (fA (bracI m t))] ?_ ?_
    ·((repeat' apply And.intro) <;> first | exact kD | (intro hgd; refine ⟨?_, kG⟩; (repeat' apply And.intro) <;> first | exact kD | skip) | skip)
     all_goals first | (rw [hsz]; omega) | (rw [ext1]; exact hf) | skip
    refine kW ?_
    refine AK.ret ⟨_, rfl, ?_⟩
    rw [← hR]
    rfl
  ·have hb2 := hb
   have hq := quoted_b s1
   have hu := unquote_a (toB s1) (by rw [toB_size]; omega)
   rw [unq_eq, toB_list] at hu
   refine kW ?_
   refine kP [] ?_ ?_
   ·((repeat' apply And.intro) <;> first | exact kD | (intro hgd; refine ⟨?_, kG⟩; (repeat' apply And.intro) <;> first | exact kD | skip) | skip)
    all_goals
     cases s1 with
     | nil => simp [gd, ne_toB] at hgd
     | cons c l => rw [toB_size, List.length_cons]; omega
   refine kC (fun hb => ?_) fun hb => ?_
   ·rw [hq] at hb
    cases s1 with
    | nil => cases hb
    | cons c t =>
     have hc1 : ¬ c = 91 := by simpa [head1] using hb1
     have hc2 : ¬ c = 123 := by simpa [head1] using hb2
     have hqc : isQ c = true := hb
     rw [oneK, if_neg hc1, if_neg hc2, if_pos hqc] at hR
     refine kW ?_
     cases hx : unqL (c :: t) with
     | none =>
      rw [hx] at hu hR
      simp only [qA] at hu
      dsimp only at hR
      have h1 := treeStr_a ⟨#[]⟩
      have h2 := tl_a []
      refine kQ [.v (.tup [.str ⟨#[]⟩, .str ⟨#[]⟩, .int .i64 11])] ?_
      refine kW ?_
      refine kQ [.v (.agg [.int .i64 ((V.str ⟨#[]⟩)).kind, .bool ((V.str ⟨#[]⟩)).b, .int .i64 ((V.str ⟨#[]⟩)).n, .str ((V.str ⟨#[]⟩)).s, .lst .any 6 (rowsV ((V.str ⟨#[]⟩)).l), .lst .any 7 (rowsM ((V.str ⟨#[]⟩)).m)]), .v (.str (toB (tl [])))] ?_
      refine kW ?_
      refine AK.ret ⟨_, rfl, ?_⟩
      rw [← hR]
      rfl
     | some p =>
      obtain ⟨x, rest⟩ := p
      rw [hx] at hu hR
      simp only [qA] at hu
      dsimp only at hR
      have h1 := treeStr_a (toB x)
      have h2 := tl_a rest
      refine kQ [.v (.tup [.str ⟨x.toArray⟩, .str ⟨rest.toArray⟩, .int .i64 0])] ?_
      refine kW ?_
      refine kQ [.v (.agg [.int .i64 ((V.str (toB x))).kind, .bool ((V.str (toB x))).b, .int .i64 ((V.str (toB x))).n, .str ((V.str (toB x))).s, .lst .any 6 (rowsV ((V.str (toB x))).l), .lst .any 7 (rowsM ((V.str (toB x))).m)]), .v (.str (toB (tl rest)))] ?_
      refine kW ?_
      refine AK.ret ⟨_, rfl, ?_⟩
      rw [← hR]
      rfl
   ·rw [hq] at hb
    have hR2 : (if badWord (tr (s1.take (endAt ends s1))) = true then (V.null, [], (10 : Int)) else ((scalP (toB (tr (s1.take (endAt ends s1))))).1, s1.drop (endAt ends s1), (scalP (toB (tr (s1.take (endAt ends s1))))).2)) = R := by
     rw [← hR]
     cases s1 with
     | nil =>
      have h0 : endAt ends [] = 0 := by unfold endAt; split <;> rfl
      rw [h0, if_pos (by rfl)]
      rfl
     | cons c t =>
      have hc1 : ¬ c = 91 := by simpa [head1] using hb1
      have hc2 : ¬ c = 123 := by simpa [head1] using hb2
      have hqc : ¬ isQ c = true := by rw [show isQ c = false from hb]; simp
      rw [oneK, if_neg hc1, if_neg hc2, if_neg hqc]
    clear hR hb hq hu hb1 hb2 hp1 hp2 htl hF hB
    have hR := hR2
    clear hR2
    have hne := ne_toB ends
    refine kW ?_
    refine kC (fun hb => ?_) fun hb => ?_
    ·rw [hne] at hb
     have hends : ends ≠ [] := by intro h; subst h; simp at hb
     have hE : endAt ends s1 = (s1.takeWhile fun c => !ends.contains c).length := by rw [endAt, if_neg hends]
     rw [hE] at hR
     refine kW ?_
     refine AK.loopI (fun i : Nat => (frOf [(0, .str (toB s1)), (1, .str (toB ends)), (4, .ptr 4 0), (5, .str ⟨#[]⟩), (6, .int .i64 0), (10, .int .i64 i)], ⟨boxOf [(4, [.int .i64 0, .bool false, .int .i64 0, .str ⟨#[]⟩, .lst .nil 6 [], .lst .nil 7 []], false)], fun _ => 0⟩)) (fun i => i ≤ s1.length ∧ ∀ j c, j < i → s1[j]? = some c → (!ends.contains c) = true) (fun i => s1.length - i) 0 ⟨by omega, fun j c hj => by omega⟩ (Weak.intro ⟨kI, kI, kI, kI, kI, kI, trivial⟩ ⟨kJ, trivial⟩ rfl rfl) fun i ⟨hi, hall⟩ => ?_
     refine kW ?_
     by_cases hlt : i < s1.length
     ·obtain ⟨c, hc⟩ : ∃ c, s1[i]? = some c := ⟨_, List.getElem?_eq_getElem hlt⟩
      have hat : (toB s1).data.getD (i : Int).toNat 0 = c := toB_at (by simpa using hc)
      have hix := ixB_a ends c
      have him := ix_mem ends c
      refine kP [.v (.int .i64 (Lib.indexByte ends c))] ?_ ?_
      ·((repeat' apply And.intro) <;> first | exact kD | (intro hgd; refine ⟨?_, kG⟩; (repeat' apply And.intro) <;> first | exact kD | skip) | skip)
       all_goals first | (rw [toB_size]; omega) | (rw [hat]; exact hix) | skip
      have hz : decide ((i : Int) < (toB s1).size) = true := by rw [toB_size]; simpa using hlt
      rw [hz]
      cases hcon : ends.contains c with
      | true =>
       rw [hcon] at him
       have h0 : 0 ≤ Lib.indexByte ends c := by simpa using him
       refine kC (fun hb => ?_) fun hb => ?_
       ·exfalso
        have : Lib.indexByte ends c < 0 := by simpa using hb
        omega
       ·have he := tw_len (fun c => !ends.contains c) s1 i hi hall (fun d hd => by rw [hc] at hd; cases hd; rw [hcon]; rfl)
        rw [he] at hR
        refine AK.exit rfl ?_
        have hwl := tr_len (s1.take i)
        have hwz : (tr (s1.take i)).length ≤ 1000000 := by rw [List.length_take] at hwl; omega
        have htr := tr_a (s1.take i) (by rw [List.length_take]; omega)
        have hod := odd_a (tr (s1.take i))
        have hco := contains_a (tr (s1.take i)) [58, 32] hwz
        have hsu := suff_a (tr (s1.take i)) [58] hwz
        have hsc := scal_a (toB (tr (s1.take i))) (by rw [toB_size]; omega)
        have hne2 := ne_toB (tr (s1.take i))
        refine kW ?_
        refine kP [.v (.str (toB (tr (s1.take i))))] ?_ ?_
        ·((repeat' apply And.intro) <;> first | exact kD | (intro hgd; refine ⟨?_, kG⟩; (repeat' apply And.intro) <;> first | exact kD | skip) | skip)
         all_goals first | (rw [toB_size]; omega) | (rw [toB_toI _ _ (by omega)]; exact htr) | skip
        refine kW ?_
        generalize hw : tr (s1.take i) = w at *
        refine kQ [.v (.bool (oddL w)), .v (.bool (Lib.contains w [58, 32])), .v (.bool (Lib.hasSuffix w [58]))] ?_
        refine kC (fun hb => ?_) fun hb => ?_
        ·rw [hne2] at hb
         rw [if_pos (show badWord w = true from hb)] at hR
         refine kW ?_
         refine AK.ret ⟨_, rfl, ?_⟩
         rw [← hR]
         rfl
        ·rw [hne2] at hb
         rw [if_neg (show ¬ badWord w = true by rw [show badWord w = false from hb]; simp)] at hR
         refine kW ?_
         refine kQ [.v (.tup [.agg [.int .i64 ((scalP (toB w)).1).kind, .bool ((scalP (toB w)).1).b, .int .i64 ((scalP (toB w)).1).n, .str ((scalP (toB w)).1).s, .lst .any 6 (rowsV ((scalP (toB w)).1).l), .lst .any 7 (rowsM ((scalP (toB w)).1).m)], .int .i64 (scalP (toB w)).2])] ?_
         refine kW ?_
         refine kP [] ?_ ?_
         ·((repeat' apply And.intro) <;> first | exact kD | (intro hgd; refine ⟨?_, kG⟩; (repeat' apply And.intro) <;> first | exact kD | skip) | skip)
          all_goals (rw [toB_size]; omega)
         refine kW ?_
         refine AK.ret ⟨_, rfl, ?_⟩
         rw [toB_fromI, ← hR]
         rfl
      | false =>
       rw [hcon] at him
       have h0 : Lib.indexByte ends c < 0 := by simpa using him
       refine kC (fun hb => ?_) fun hb => ?_
       ·refine kW ?_
        exact AK.lp ⟨i + 1, ⟨by omega, fun j d hj hd => by
         by_cases e : j = i
         ·subst e; rw [hc] at hd; cases hd; rw [hcon]; rfl
         ·exact hall j d (by omega) hd⟩, (Weak.intro ⟨kI, kI, kI, kI, kI, kU, trivial⟩ ⟨kJ, trivial⟩ rfl rfl), by omega⟩
       ·exfalso
        have : ¬ Lib.indexByte ends c < 0 := by simpa using hb
        omega
     ·have hz : decide ((i : Int) < (toB s1).size) = false := by rw [toB_size]; simpa using hlt
      refine kP [.v (.int .i64 0)] ?_ ?_
      ·((repeat' apply And.intro) <;> first | exact kD | (intro hgd; refine ⟨?_, kG⟩; (repeat' apply And.intro) <;> first | exact kD | skip) | skip)
       all_goals (exfalso; rw [hz] at hgd; simp [gd] at hgd)
      rw [hz]
      refine kC (fun hb => ?_) fun hb => ?_
      ·cases hb
      ·have he := tw_len (fun c => !ends.contains c) s1 i hi hall (fun d hd => by have := (List.getElem?_eq_some_iff.1 hd).1; omega)
       rw [he] at hR
       refine AK.exit rfl ?_
       have hwl := tr_len (s1.take i)
       have hwz : (tr (s1.take i)).length ≤ 1000000 := by rw [List.length_take] at hwl; omega
       have htr := tr_a (s1.take i) (by rw [List.length_take]; omega)
       have hod := odd_a (tr (s1.take i))
       have hco := contains_a (tr (s1.take i)) [58, 32] hwz
       have hsu := suff_a (tr (s1.take i)) [58] hwz
       have hsc := scal_a (toB (tr (s1.take i))) (by rw [toB_size]; omega)
       have hne2 := ne_toB (tr (s1.take i))
       refine kW ?_
       refine kP [.v (.str (toB (tr (s1.take i))))] ?_ ?_
       ·((repeat' apply And.intro) <;> first | exact kD | (intro hgd; refine ⟨?_, kG⟩; (repeat' apply And.intro) <;> first | exact kD | skip) | skip)
        all_goals first | (rw [toB_size]; omega) | (rw [toB_toI _ _ (by omega)]; exact htr) | skip
       refine kW ?_
       generalize hw : tr (s1.take i) = w at *
       refine kQ [.v (.bool (oddL w)), .v (.bool (Lib.contains w [58, 32])), .v (.bool (Lib.hasSuffix w [58]))] ?_
       refine kC (fun hb => ?_) fun hb => ?_
       ·rw [hne2] at hb
        rw [if_pos (show badWord w = true from hb)] at hR
        refine kW ?_
        refine AK.ret ⟨_, rfl, ?_⟩
        rw [← hR]
        rfl
       ·rw [hne2] at hb
        rw [if_neg (show ¬ badWord w = true by rw [show badWord w = false from hb]; simp)] at hR
        refine kW ?_
        refine kQ [.v (.tup [.agg [.int .i64 ((scalP (toB w)).1).kind, .bool ((scalP (toB w)).1).b, .int .i64 ((scalP (toB w)).1).n, .str ((scalP (toB w)).1).s, .lst .any 6 (rowsV ((scalP (toB w)).1).l), .lst .any 7 (rowsM ((scalP (toB w)).1).m)], .int .i64 (scalP (toB w)).2])] ?_
        refine kW ?_
        refine kP [] ?_ ?_
        ·((repeat' apply And.intro) <;> first | exact kD | (intro hgd; refine ⟨?_, kG⟩; (repeat' apply And.intro) <;> first | exact kD | skip) | skip)
         all_goals (rw [toB_size]; omega)
        refine kW ?_
        refine AK.ret ⟨_, rfl, ?_⟩
        rw [toB_fromI, ← hR]
        rfl
    ·rw [hne] at hb
     have hends : ends = [] := by simpa [List.isEmpty_iff] using hb
     have hE : endAt ends s1 = s1.length := by rw [endAt, if_pos hends]
     rw [hE] at hR
     have hszz : ((toB s1).size : Int) = (s1.length : Int) := rfl
     rw [hszz]
     have hwl := tr_len (s1.take (s1.length))
     have hwz : (tr (s1.take (s1.length))).length ≤ 1000000 := by rw [List.length_take] at hwl; omega
     have htr := tr_a (s1.take (s1.length)) (by rw [List.length_take]; omega)
     have hod := odd_a (tr (s1.take (s1.length)))
     have hco := contains_a (tr (s1.take (s1.length))) [58, 32] hwz
     have hsu := suff_a (tr (s1.take (s1.length))) [58] hwz
     have hsc := scal_a (toB (tr (s1.take (s1.length)))) (by rw [toB_size]; omega)
     have hne2 := ne_toB (tr (s1.take (s1.length)))
     refine kW ?_
     refine kP [.v (.str (toB (tr (s1.take (s1.length)))))] ?_ ?_
     ·((repeat' apply And.intro) <;> first | exact kD | (intro hgd; refine ⟨?_, kG⟩; (repeat' apply And.intro) <;> first | exact kD | skip) | skip)
      all_goals first | (rw [toB_size]; omega) | (rw [toB_toI _ _ (by omega)]; exact htr) | skip
     refine kW ?_
     generalize hw : tr (s1.take (s1.length)) = w at *
     refine kQ [.v (.bool (oddL w)), .v (.bool (Lib.contains w [58, 32])), .v (.bool (Lib.hasSuffix w [58]))] ?_
     refine kC (fun hb => ?_) fun hb => ?_
     ·rw [hne2] at hb
      rw [if_pos (show badWord w = true from hb)] at hR
      refine kW ?_
      refine AK.ret ⟨_, rfl, ?_⟩
      rw [← hR]
      rfl
     ·rw [hne2] at hb
      rw [if_neg (show ¬ badWord w = true by rw [show badWord w = false from hb]; simp)] at hR
      refine kW ?_
      refine kQ [.v (.tup [.agg [.int .i64 ((scalP (toB w)).1).kind, .bool ((scalP (toB w)).1).b, .int .i64 ((scalP (toB w)).1).n, .str ((scalP (toB w)).1).s, .lst .any 6 (rowsV ((scalP (toB w)).1).l), .lst .any 7 (rowsM ((scalP (toB w)).1).m)], .int .i64 (scalP (toB w)).2])] ?_
      refine kW ?_
      refine kP [] ?_ ?_
      ·((repeat' apply And.intro) <;> first | exact kD | (intro hgd; refine ⟨?_, kG⟩; (repeat' apply And.intro) <;> first | exact kD | skip) | skip)
       all_goals (rw [toB_size]; omega)
      refine kW ?_
      refine AK.ret ⟨_, rfl, ?_⟩
      rw [toB_fromI, ← hR]
      rfl
theorem one_ok : ∀ N, N ≤ 1000000 → OneOk N
 | 0, _ => fun n ends s hs hn => one_step s ends n (by omega) hn (fun n t ht => by omega) (fun n t ht => by omega)
 | N + 1, hN => fun n ends s hs hn => one_step s ends n (by omega) hn (fun n t ht hn => flow_a (one_ok N (by omega)) (by omega) n t (by omega) hn) (fun n t ht hn => braces_a (one_ok N (by omega)) (by omega) n t (by omega) hn)
end Go.Proofs.YtgekcnpfflhpkaaGreatDoor
