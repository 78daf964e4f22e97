/-
  The texts that the claim wants, one behind the other: part 20.
-/
import Derived.Test.YtbfiopoefbbknaaGreatDoorS19
import Derived.Lib.AppendIntMem
import Derived.Lib.UnsafeStr
import Derived.Test.YtbfiopoefbbknaaGreatDoorChecked
import Derived.KernelRfl
import Derived.Lib.ItoaNum
set_option linter.unusedSimpArgs false
set_option linter.unusedVariables false
namespace Go.Proofs.YtbfiopoefbbknaaGreatDoor
open Go.RowKit
def noSl (s : ByteArray) : Bool := decide (∀ k, (h : k < s.size) → s[k].toNat ≠ 47)
def nameB (s : ByteArray) : Bool := noSl s && (bareB s && decide (s.size ≤ 48))
theorem noSl_no {s : ByteArray} {k : Nat} (h : k < s.size) (hb : s[k].toNat = 47) : noSl s = false := decide_eq_false fun hA => hA k h hb
theorem refName_a (s : ByteArray) (hs : s.size ≤ 140737488355328) : AC Tryz.prog 22 [.str s] (.bool (nameB s)) := by
 have hB := refBare_a s hs
 refine kE Tryz.func22 a_ref17_Name_ok a_ref17_Name_cb fun E hE => ?_
 refine kW ?_
 refine AK.loopI (fun k : Nat => (frOf [(0, .str s), (3, .int .i64 k)], ⟨boxOf [], fun _ => 0⟩)) (fun k => k ≤ s.size ∧ ∀ j, (h : j < s.size) → j < k → s[j].toNat ≠ 47) (fun k => s.size - k) 0 ⟨by omega, fun j h h2 => by omega⟩ (Weak.intro ⟨kI, kI, trivial⟩ trivial rfl rfl) fun k ⟨hk, hno⟩ => ?_
 refine kW ?_
 refine kC (fun hb => ?_) fun hb => ?_
 ·have hlt : k < s.size := by simpa using hb
  refine kW ?_
  refine kQ [] ?_
  rw [show s.data.getD (k : Int).toNat 0 = s[k] from byte_at hlt]
  refine kC (fun hb => ?_) fun hb => ?_
  ·have hf : s[k].toNat = 47 := by have h : ((s[k].toNat : Nat) : Int) = 47 := by simpa using hb
                                   omega
   refine kW ?_
   refine AK.ret ⟨_, rfl, ?_⟩
   rw [nameB, noSl_no hlt hf]
   rfl
  ·have hf : s[k].toNat ≠ 47 := by have h : ¬ ((s[k].toNat : Nat) : Int) = 47 := by simpa using hb
                                   omega
   refine kW ?_
   exact AK.lp ⟨k + 1, ⟨by omega, fun j h h2 => by
    by_cases e : j = k
    ·subst e; exact hf
    ·exact hno j h (by omega)⟩, Weak.intro ⟨kI, kU, trivial⟩ trivial rfl rfl, by omega⟩
 ·have hlt : s.size ≤ k := by simpa using hb
  have hall : noSl s = true := decide_eq_true fun j h => hno j h (by omega)
  refine AK.exit rfl ?_
  refine kW ?_
  refine kQ [.v (.bool (bareB s))] ?_
  refine kW ?_
  refine AK.ret ⟨_, rfl, ?_⟩
  refine congrArg AV.bool ?_
  rw [nameB, hall]
  cases bareB s <;> simp <;> omega
theorem idx47 : ∀ (l : List UInt8), decide (0 ≤ Lib.indexByte l 47) = decide ((47 : UInt8) ∈ l)
 | [] => rfl
 | b :: l => by
  rw [Lib.indexByte]
  have ih := idx47 l
  by_cases h : b = 47
  ·subst h; simp
  ·have hb : (b == 47) = false := by simpa using h
   rw [hb]
   have e : decide ((47 : UInt8) ∈ b :: l) = decide ((47 : UInt8) ∈ l) := by
    rw [Bool.eq_iff_iff, decide_eq_true_eq, decide_eq_true_eq, List.mem_cons]
    exact ⟨fun h' => h'.resolve_left fun e => h e.symm, .inr⟩
   rw [e, ← ih]
   by_cases h1 : Lib.indexByte l 47 = -1
   ·simp [h1]
   ·have hge : -1 ≤ Lib.indexByte l 47 := by
     clear ih e h1
     induction l with
     | nil => decide
     | cons c l ih => rw [Lib.indexByte]; split <;> (try split) <;> omega
    have h2 : (Lib.indexByte l 47 == -1) = false := by simpa using h1
    simp only [Bool.false_eq_true, if_false, h2]
    rw [Bool.eq_iff_iff, decide_eq_true_eq, decide_eq_true_eq]
    omega
theorem noSl_mem (s : ByteArray) : (!decide ((47 : UInt8) ∈ s.data.toList)) = noSl s := by
 rw [Bool.eq_iff_iff, noSl, Bool.not_eq_true', decide_eq_false_iff_not, decide_eq_true_eq]
 constructor
 ·intro h k hk e
  refine h ?_
  have : s[k] = 47 := UInt8.toNat_inj.1 e
  rw [← this]
  exact Array.mem_toList_iff.2 (Array.getElem_mem hk)
 ·intro h hm
  obtain ⟨k, hk, e⟩ := List.getElem_of_mem hm
  have hk' : k < s.size := by simpa using hk
  refine h k hk' ?_
  have : s[k] = 47 := by rw [← e]; rfl
  rw [this]; rfl
theorem contains47_a (s : ByteArray) : AC Tryz.prog 52 [.str s, .str ⟨#[47]⟩] (.bool (!noSl s)) := by
 refine ⟨by kernel_rfl, fun σ w vs hh hr hg => ?_⟩
 have hl : vs.length = 2 := hr.1
 obtain ⟨v1, v2, rfl⟩ : ∃ a b, vs = [a, b] := by
  rcases vs with _ | ⟨a, _ | ⟨b, _ | ⟨d, l⟩⟩⟩ <;> simp at hl
  exact ⟨a, b, rfl⟩
 have h1 : Rel1 σ v1 (.str s) := hr.2 0 v1 _ rfl rfl
 have h2 : Rel1 σ v2 (.str ⟨#[47]⟩) := hr.2 1 v2 _ rfl rfl
 cases h1; cases h2
 refine (Tryz.strings_Contains_one s 47 w).mono ?_
 rintro e w' ⟨rfl, rfl⟩
 rw [idx47, ← noSl_mem, Bool.not_not]
 exact ⟨σ, _, rfl, Ext.refl _ _, hh, Below.refl _ _, .bool _⟩
theorem recName_a (s : ByteArray) (hs : s.size ≤ 140737488355328) : AC Tryz.prog 21 [.str s] (.bool (nameB s)) := by
 have h1 := bare_a s hs
 have h2 := contains47_a s
 refine kE Tryz.func21 a_record_Name_ok a_record_Name_cb fun E hE => ?_
 refine kW ?_
 refine kQ [.v (.bool (bareB s)), .v (.bool (!noSl s))] ?_
 refine kW ?_
 refine AK.ret ⟨_, rfl, ?_⟩
 refine congrArg AV.bool ?_
 rw [nameB]
 cases bareB s <;> cases noSl s <;> simp <;> omega
theorem Holds.on {σ : Sg} {w w' : World} (hh : Holds σ w) (hb : Below w.heap.size w w') : Holds σ w' := fun b q v hv => (hb.cell (p := ⟨b, q, none⟩) (World.block_lt_of_cell? w _ (hh _ _ _ hv))).trans (hh _ _ _ hv)
theorem tab_of {w : World} (h : GW w) : Lib.TabIs Tryz.prog w "internal/strconv.uint64pow10" .u64 Lib.pow10Tab := by
 obtain ⟨ty, fr, h1⟩ := h.cells (gi_uint64pow10, gv_uint64pow10) (by simp [globL])
 unfold Lib.TabIs World.var?
 rw [show Tryz.prog.globalNamed "internal/strconv.uint64pow10" = some gi_uint64pow10 by kernel_rfl, Option.bind_some, h1]
 show some gv_uint64pow10.toArray = _
 congr 1
theorem itoa_a (n : Nat) (hn : n ≤ 9223372036854775807) : AC Tryz.prog 62 [.int .i64 n] (.str ⟨(Lib.decDigits n).toArray⟩) := by
 refine ⟨by kernel_rfl, fun σ w vs hh hr hg => ?_⟩
 have hl : vs.length = 1 := hr.1
 obtain ⟨v1, rfl⟩ := List.length_eq_one_iff.1 hl
 have h1 : Rel1 σ v1 (.int .i64 n) := hr.2 0 v1 _ rfl rfl
 cases h1
 refine (Tryz.strconv_Itoa n (by omega) (by omega) w (tab_of hg)).mono ?_
 rintro e w' ⟨rfl, k, os, rfl⟩
 rw [Lib.itoa_nonneg]
 have hb := Lib.below_grow w.heap.size w (Nat.le_refl _) k os
 exact ⟨σ, _, rfl, Ext.refl _ _, hh.on hb, hb, .str _⟩
def idB (a : ByteArray) (n : Nat) : ByteArray := a ++ ⟨#[46, 118]⟩ ++ ⟨(Lib.decDigits n).toArray⟩
def hidB : ByteArray := ⟨#[82, 101, 108, 101, 97, 115, 101]⟩
def defB : ByteArray := ⟨#[100, 101, 102, 97, 117, 108, 116]⟩
theorem id_a (a : ByteArray) (n : Nat) (ha : a.size ≤ 140737488355328) (hn : n ≤ 1000000) : AC Tryz.prog 29 [.str a, .int .i64 n] (.agg [.str hidB, .str defB, .str (idB a n)]) := by
 have h1 := itoa_a n (by omega)
 have hd := dec_len 6 n (by omega)
 have hz : (ByteArray.mk (Lib.decDigits n).toArray).size = (Lib.decDigits n).length := by simp [ByteArray.size]
 have h2 : (a ++ ByteArray.mk #[46, 118]).size = a.size + 2 := by rw [ByteArray.size_append]; rfl
 refine kE Tryz.func29 a_record_ID_ok a_record_ID_cb fun E hE => ?_
 refine kW ?_
 refine kP [.v (.str ⟨(Lib.decDigits n).toArray⟩)] ?_ ?_
 ·((repeat' apply And.intro) <;> first | exact kD | (intro hgd; refine ⟨?_, kG⟩; (repeat' apply And.intro) <;> first | exact kD | skip) | skip)
  all_goals (first | (show ((a.size + 2 : Nat) : Int) ≤ _; omega) | omega)
 refine kW ?_
 refine AK.ret ⟨_, rfl, ?_⟩
 rfl
theorem heldID : Tryz.prog.stoodInHeld 58 = false := by kernel_rfl
theorem guardID : Tryz.prog.eqGuardType Tryz.prog.depth 58 = false := by kernel_rfl
theorem tl_iff (a b : ByteArray) : a.toList = b.toList ↔ a = b := ⟨LastIndex.eq_of_toList, fun h => by rw [h]⟩
theorem eqID_any (neg : Bool) (a b c d e f : ByteArray) : EqRun Tryz.prog neg 58 [.string a, .string b, .string c] [.string d, .string e, .string f] (eqCells [.str a, .str b, .str c] [.str d, .str e, .str f]) := by
 intro w x y
 cases neg
 ·constructor
  ·simp [go_sem, eqGuard, eqOp, guardID]
  ·simp [go_sem, eqOp, heldID, eqCells, tl_iff]
   by_cases h1 : a = d <;> by_cases h2 : b = e <;> by_cases h3 : c = f <;> simp [h1, h2, h3]
 ·constructor
  ·simp [go_sem, eqGuard, eqOp, guardID]
  ·simp [go_sem, eqOp, heldID, eqCells, tl_iff]
   by_cases h1 : a = d <;> by_cases h2 : b = e <;> by_cases h3 : c = f <;> simp [h1, h2, h3]
theorem nilErO (neg : Bool) : NilRun Tryz.prog neg 104 .nilIface .nilIface true := by
 intro w x y hk
 have hg : (eqGuard (eqOp neg) 104 x y .nilIface .nilIface).run Tryz.prog w = .ok () w := by
  cases x <;> cases y <;> first | (cases hk; done) | (cases neg <;> simp [go_sem, eqGuard, eqOp])
 cases neg
 ·exact ⟨hg, by simp [go_sem, eqOp]⟩
 ·exact ⟨hg, by simp [go_sem, eqOp]⟩
theorem below_bytes (w : World) (e : TypeId) (s : ByteArray) : Below w.heap.size w (Lib.bytesWorld w e s) := by
 unfold Lib.bytesWorld
 exact Lib.below_freeze (((Below.refl _ _).drew).alloc (Nat.le_refl _) _) (Nat.le_refl _) _
theorem atoi_a (n : Nat) (hn : n ≤ 1000000) : AC Tryz.prog 64 [.str ⟨(Lib.decDigits n).toArray⟩] (.tup [.int .i64 n, .raw .nilIface]) := by
 refine ⟨by kernel_rfl, fun σ w vs hh hr hg => ?_⟩
 have hl : vs.length = 1 := hr.1
 obtain ⟨v1, rfl⟩ := List.length_eq_one_iff.1 hl
 have h1 : Rel1 σ v1 (.str ⟨(Lib.decDigits n).toArray⟩) := hr.2 0 v1 _ rfl rfl
 cases h1
 have hd := dec_len 6 n (by omega)
 refine (Tryz.strconv_Atoi ⟨(Lib.decDigits n).toArray⟩ n (by show (Lib.decDigits n).toArray.size ≤ 18; simp; omega) (by rw [List.toList_toArray]; exact atoi_dec n) w).mono ?_
 rintro e w' ⟨rfl, t, rfl⟩
 have hb := below_bytes w 5 t
 refine ⟨σ, _, rfl, Ext.refl _ _, hh.on hb, hb, ⟨[.int .i64 n, .nilIface], rfl, rfl, fun j v a hv ha => ?_⟩⟩
 rcases j with _ | _ | j <;> simp at hv ha
 ·subst hv ha; exact .int _ _
 ·subst hv ha; exact .raw _ rfl
theorem idB_list (a : ByteArray) (n : Nat) : (idB a n).data.toList = nameL a.data.toList n := by
 unfold idB nameL
 rw [ByteArray.data_append, ByteArray.data_append, Array.toList_append, Array.toList_append]
theorem idB_size (a : ByteArray) (n : Nat) : (idB a n).size = a.size + 2 + (Lib.decDigits n).length := by
 unfold idB
 rw [ByteArray.size_append, ByteArray.size_append]
 show a.size + 2 + (Lib.decDigits n).toArray.size = _
 simp
theorem last_a (a : ByteArray) (n : Nat) (ha : a.size ≤ 140737488355328) (hn : n ≤ 1000000) : AC Tryz.prog 63 [.str (idB a n), .str ⟨#[46, 118]⟩] (.int .i64 a.size) := by
 refine ⟨by kernel_rfl, fun σ w vs hh hr hg => ?_⟩
 have hl : vs.length = 2 := hr.1
 obtain ⟨v1, v2, rfl⟩ : ∃ a b, vs = [a, b] := by
  rcases vs with _ | ⟨a, _ | ⟨b, _ | ⟨d, l⟩⟩⟩ <;> simp at hl
  exact ⟨a, b, rfl⟩
 have h1 : Rel1 σ v1 (.str (idB a n)) := hr.2 0 v1 _ rfl rfl
 have h2 : Rel1 σ v2 (.str ⟨#[46, 118]⟩) := hr.2 1 v2 _ rfl rfl
 cases h1; cases h2
 have hd := dec_len 6 n (by omega)
 have hz := idB_size a n
 refine (Tryz.strings_LastIndex (idB a n) ⟨#[46, 118]⟩ (by omega) w).mono ?_
 rintro e w' ⟨rfl, rfl⟩
 rw [idB_list, show (ByteArray.mk #[46, 118]).data.toList = [46, 118] from rfl, nameL_last, show a.data.toList.length = a.size by simp]
 exact ⟨σ, _, rfl, Ext.refl _ _, hh, Below.refl _ _, .int _ _⟩
theorem idB_front (a : ByteArray) (n : Nat) : (idB a n).extract 0 a.size = a := by
 rw [Lib.extract_eq, idB_list]
 cases a with
 | mk d =>
  congr 1
  refine Array.toList_inj.1 ?_
  simp [nameL, ByteArray.size]
theorem idB_back (a : ByteArray) (n : Nat) : (idB a n).extract (a.size + 2) (idB a n).size = ⟨(Lib.decDigits n).toArray⟩ := by
 rw [Lib.extract_eq, idB_list]
 congr 1
 refine Array.toList_inj.1 ?_
 have e : nameL a.data.toList n = (a.data.toList ++ [46, 118]) ++ Lib.decDigits n := rfl
 have e2 : (a.data.toList ++ [46, 118]).length = a.size + 2 := by simp
 rw [e, ← e2, List.drop_left, idB_size]
 simp
theorem eqCells_same3 (a b c : ByteArray) : eqCells [.str a, .str b, .str c] [.str a, .str b, .str c] = true := by simp [eqCells]
theorem owner_a (a : ByteArray) (n : Nat) (ha : nameB a = true) (h1 : 1 ≤ n) (hn : n ≤ 1000000) : AC Tryz.prog 30 [.agg [.str hidB, .str defB, .str (idB a n)]] (.tup [.str a, .int .i64 n, .bool true]) := by
 have hz : a.size ≤ 48 := by
  simp only [nameB, Bool.and_eq_true, decide_eq_true_eq] at ha
  exact ha.2.2
 have hL := last_a a n (by omega) hn
 have hA := atoi_a n hn
 have hN := recName_a a (by omega)
 have hI := id_a a n (by omega) hn
 rw [ha] at hN
 have hs := idB_size a n
 have hf := idB_front a n
 have hb2 := idB_back a n
 refine kE Tryz.func30 a_record_Owner_ok a_record_Owner_cb fun E hE => ?_
 refine kW ?_
 refine kQ [.v (.int .i64 a.size)] ?_
 refine kW ?_
 refine kC (fun hb => ?_) fun hb => ?_
 ·exact absurd hb (by simp)
 have hw : IntKind.i64.wrap ((a.size : Int) + 2) = ((a.size + 2 : Nat) : Int) := by rw [wrap_in (by omega) (by omega)]; omega
 refine kW ?_
 refine kP [.v (.tup [.int .i64 n, .raw .nilIface])] ?_ ?_
 ·((repeat' apply And.intro) <;> first | exact kD | (intro hgd; refine ⟨?_, kG⟩; (repeat' apply And.intro) <;> first | exact kD | skip) | skip)
  rw [show (idB a n).extract (IntKind.i64.wrap ((a.size : Int) + 2)).toNat ((idB a n).size : Int).toNat = ⟨(Lib.decDigits n).toArray⟩ by rw [hw, Int.toNat_natCast, Int.toNat_natCast]; exact hb2]
  exact hA
 refine kW ?_
 refine kQ [] ?_
 rw [show (idB a n).extract (0 : Int).toNat (a.size : Int).toNat = a by rw [Int.toNat_natCast]; exact hf]
 refine kW ?_
 refine kP [.v (.bool true), .v (.agg [.str hidB, .str defB, .str (idB a n)])] ?_ ?_
 ·((repeat' apply And.intro) <;> first | exact kD | (intro hgd; refine ⟨?_, kG⟩; (repeat' apply And.intro) <;> first | exact kD | skip) | skip)
  ·exact nilErO true
  ·exact eqID_any true _ _ _ _ _ _
 rw [eqCells_same3]
 refine kC (fun hb => ?_) fun hb => ?_
 ·exact absurd hb (by simp; omega)
 refine kW ?_
 refine AK.ret ⟨_, rfl, ?_⟩
 rfl
theorem text_nil : AC Tryz.prog 38 [.str ⟨#[]⟩] (.bool true) := by
 refine kE Tryz.func38 a_tree_Text_ok a_tree_Text_cb fun E hE => ?_
 refine kW ?_
 refine AK.loopI (fun k : Nat => (frOf [(0, .str ⟨#[]⟩), (6, .int .i64 (0 : Nat)), (7, .int .i64 k)], ⟨boxOf [], fun _ => 0⟩)) (fun k => k = 0) (fun k => 0) 0 rfl (Weak.intro ⟨kI, kI, kI, trivial⟩ trivial rfl rfl) fun k hk => ?_
 subst hk
 refine kW ?_
 refine kC (fun hb => ?_) fun hb => ?_
 ·cases hb
 refine AK.exit rfl ?_
 refine kW ?_
 refine AK.ret ⟨_, rfl, ?_⟩
 rfl
def webB : ByteArray := ⟨#[119, 101, 98]⟩
theorem right_ex : AC Tryz.prog 19 [.agg [.str webB, .int .i64 1, .int .i64 1, .int .i64 1, .str ⟨#[]⟩, .str ⟨#[]⟩, .str ⟨#[]⟩]] (.bool true) := by
 have h1 := recName_a webB (by decide)
 rw [show nameB webB = true by decide +kernel] at h1
 have h2 := text_nil
 refine kE Tryz.func19 a_record_Right_ok a_record_Right_cb fun E hE => ?_
 refine kW ?_
 refine kQ [.v (.bool true), .v (.bool true), .v (.bool true), .v (.bool true)] ?_
 refine kW ?_
 refine AK.ret ⟨_, rfl, ?_⟩
 rfl
theorem awake_a : AC Tryz.prog 18 [] (.bool true) := by
 have h1 := id_a webB 3 (by decide) (by decide)
 rw [show idB webB 3 = ⟨#[119, 101, 98, 46, 118, 51]⟩ by decide +kernel] at h1
 have h2 := right_ex
 refine kE Tryz.func18 a_law17_awake_ok a_law17_awake_cb fun E hE => ?_
 refine kW ?_
 refine kP [.v (.agg [.str hidB, .str defB, .str ⟨#[119, 101, 98, 46, 118, 51]⟩]), .v (.bool true)] ?_ ?_
 ·((repeat' apply And.intro) <;> first | exact kD | (intro hgd; refine ⟨?_, kG⟩; (repeat' apply And.intro) <;> first | exact kD | skip) | skip)
  exact eqID_any false _ _ _ _ _ _
 refine kW ?_
 refine AK.ret ⟨_, rfl, ?_⟩
 exact congrArg AV.bool (by decide +kernel)
structure Rc where
 rel : ByteArray
 rev : Int
 st : Int
 cmd : Int
 ch : ByteArray
 va : ByteArray
 ma : ByteArray
def rcA (r : Rc) : List AV := [.str r.rel, .int .i64 r.rev, .int .i64 r.st, .int .i64 r.cmd, .str r.ch, .str r.va, .str r.ma]
def rcOk (r : Rc) : Bool := nameB r.rel && (decide (1 ≤ r.rev) && decide (r.rev ≤ 1000000) && decide (1 ≤ r.st) && decide (r.st ≤ 5) && decide (1 ≤ r.cmd) && decide (r.cmd ≤ 4) && (textB r.ch && textB r.va && textB r.ma))
def Rc.sz (r : Rc) : Prop := r.rel.size ≤ 140737488355328 ∧ r.ch.size ≤ 140737488355328 ∧ r.va.size ≤ 140737488355328 ∧ r.ma.size ≤ 140737488355328
theorem recRight_a (r : Rc) (hz : r.sz) : AC Tryz.prog 19 [.agg (rcA r)] (.bool (rcOk r)) := by
 have h1 := recName_a r.rel hz.1
 have h2 := treeText_a r.ch hz.2.1
 have h3 := treeText_a r.va hz.2.2.1
 have h4 := treeText_a r.ma hz.2.2.2
 refine kE Tryz.func19 a_record_Right_ok a_record_Right_cb fun E hE => ?_
 refine kW ?_
 refine kQ [.v (.bool (nameB r.rel)), .v (.bool (textB r.ch)), .v (.bool (textB r.va)), .v (.bool (textB r.ma))] ?_
 refine kW ?_
 refine AK.ret ⟨_, rfl, ?_⟩
 refine congrArg AV.bool ?_
 rw [rcOk]
 cases nameB r.rel <;> cases textB r.ch <;> cases textB r.va <;> cases textB r.ma <;> simp [Bool.eq_iff_iff] <;> omega
theorem refRRight_a (r : Rc) (hz : r.sz) : AC Tryz.prog 20 [.agg (rcA r)] (.bool (rcOk r)) := by
 have h1 := refName_a r.rel hz.1
 have h2 := refText_a r.ch hz.2.1
 have h3 := refText_a r.va hz.2.2.1
 have h4 := refText_a r.ma hz.2.2.2
 refine kE Tryz.func20 a_ref17_Right_ok a_ref17_Right_cb fun E hE => ?_
 refine kW ?_
 refine kQ [.v (.bool (nameB r.rel)), .v (.bool (textB r.ch)), .v (.bool (textB r.va)), .v (.bool (textB r.ma))] ?_
 refine kW ?_
 refine AK.ret ⟨_, rfl, ?_⟩
 refine congrArg AV.bool ?_
 rw [rcOk]
 cases nameB r.rel <;> cases textB r.ch <;> cases textB r.va <;> cases textB r.ma <;> simp [Bool.eq_iff_iff] <;> omega
def kChart : ByteArray := ⟨#[99, 104, 97, 114, 116]⟩
def kCommand : ByteArray := ⟨#[99, 111, 109, 109, 97, 110, 100]⟩
def kManifest : ByteArray := ⟨#[109, 97, 110, 105, 102, 101, 115, 116]⟩
def kRelease : ByteArray := ⟨#[114, 101, 108, 101, 97, 115, 101]⟩
def kRevision : ByteArray := ⟨#[114, 101, 118, 105, 115, 105, 111, 110]⟩
def kStatus : ByteArray := ⟨#[115, 116, 97, 116, 117, 115]⟩
def kValues : ByteArray := ⟨#[118, 97, 108, 117, 101, 115]⟩
def recM (r : Rc) : List (ByteArray × V) := [(kChart, .str r.ch), (kCommand, .int r.cmd), (kManifest, .str r.ma), (kRelease, .str r.rel), (kRevision, .int r.rev), (kStatus, .int r.st), (kValues, .str r.va)]
def recV (r : Rc) : V := .mk 5 false 0 ⟨#[]⟩ [] (recM r)
theorem name_text {s : ByteArray} (h : nameB s = true) : textB s = true := by
 simp only [nameB, Bool.and_eq_true, decide_eq_true_eq] at h
 obtain ⟨_, h2, h3⟩ := h
 simp only [bareB, Bool.and_eq_true, Bool.not_eq_true', decide_eq_true_eq] at h2
 have hall : allTo okT s s.size := fun j hj _ => by
  have := h2.2 j hj
  simp only [bareAt, letN, moreN, Bool.or_eq_true, Bool.and_eq_true, Bool.not_eq_true', decide_eq_true_eq, decide_eq_false_iff_not] at this
  simp only [okT, Bool.or_eq_true, Bool.and_eq_true, decide_eq_true_eq, beq_iff_eq]
  omega
 rw [textB, allB_true hall, Bool.true_and, decide_eq_true_eq]
 omega
theorem str_good {s : ByteArray} (h : textB s = true) : (V.str s).good := by
 rw [V.str, V.good]
 exact ⟨by simp [kbad], h, trivial, trivial, trivial⟩
theorem int_good (n : Int) : (V.int n).good := by
 rw [V.int, V.good]
 exact ⟨by simp [kbad, noBytes], by decide +kernel, trivial, trivial, trivial⟩
theorem rec_good {r : Rc} (h : rcOk r = true) : (recV r).good := by
 simp only [rcOk, Bool.and_eq_true, decide_eq_true_eq] at h
 obtain ⟨hn, _, ⟨hc, hv⟩, hm⟩ := h
 rw [recV, V.good]
 refine ⟨by simp [kbad, noBytes], by decide +kernel, trivial, ?_, ?_⟩
 ·rw [goodM_iff]
  intro p hp
  simp only [recM, List.mem_cons, List.not_mem_nil, or_false] at hp
  have kk : ∀ k : ByteArray, k ∈ [kChart, kCommand, kManifest, kRelease, kRevision, kStatus, kValues] → keyB k = true := by decide +kernel
  rcases hp with rfl | rfl | rfl | rfl | rfl | rfl | rfl
  ·exact ⟨kk _ (by simp), str_good hc⟩
  ·exact ⟨kk _ (by simp), int_good _⟩
  ·exact ⟨kk _ (by simp), str_good hm⟩
  ·exact ⟨kk _ (by simp), str_good (name_text hn)⟩
  ·exact ⟨kk _ (by simp), int_good _⟩
  ·exact ⟨kk _ (by simp), int_good _⟩
  ·exact ⟨kk _ (by simp), str_good hv⟩
 ·have h1 : Op.bytesLess kChart.toList kCommand.toList = true := by decide +kernel
  have h2 : Op.bytesLess kCommand.toList kManifest.toList = true := by decide +kernel
  have h3 : Op.bytesLess kManifest.toList kRelease.toList = true := by decide +kernel
  have h4 : Op.bytesLess kRelease.toList kRevision.toList = true := by decide +kernel
  have h5 : Op.bytesLess kRevision.toList kStatus.toList = true := by decide +kernel
  have h6 : Op.bytesLess kStatus.toList kValues.toList = true := by decide +kernel
  exact ⟨h1, h2, h3, h4, h5, h6, trivial⟩
theorem rec_size (r : Rc) : (recV r).size = 8 := by simp [recV, recM, V.size, sizeM, sizeL, V.str, V.int]
end Go.Proofs.YtbfiopoefbbknaaGreatDoor
namespace Go.Proofs.YtbfiopoefbbknaaGreatDoor
set_option maxRecDepth 100000
def b_tree_Same : ACode :=
 .seq (gQ [gP 2 0, gP 3 1, ⟨gO, .mov 4 (.k (.bool false))⟩]) (.seq (gQ [gA 5 6 2, gA 6 6 3, gC 7 101 [.s 5, .s 6], gU 8 .eql 7 0, gM 4 8]) .ret)
def a_tree_Same : AFn := ⟨2, 9, b_tree_Same, [.tmp 4]⟩
theorem a_tree_Same_ok : fnAF Tryz.prog [] Tryz.f61 = some a_tree_Same := by kernel_rfl
theorem a_tree_Same_cb : callable Tryz.prog 61 = true := by kernel_rfl
def b_tree_Compare : ACode :=
 .seq (gQ [gP 2 0, gP 3 1, gJ 4 0]) (.seq (.seq (gQ [gF 6 0 2, gL 7 6, gF 8 0 3, gL 9 8, gC 10 148 [.s 7, .s 9], gM 5 10]) (.seq (gQ [gM 11 5, gU 12 .neq 11 0]) (.cond (.s 12) (.seq (gQ [gM 13 5, gM 4 13]) .ret) .skip))) (.seq (.seq (gQ [gF 14 0 2, gL 15 14]) (.block 0 (.seq (gQ [gU 17 .eql 15 1, gM 16 17]) (.cond (.s 16) (.seq (.block 1 (.seq (gQ [gF 19 1 2, gL 20 19, gF 21 1 3, gL 22 21, ⟨gO, .bin 23 .eql true (.s 20) (.s 22)⟩, gM 18 23]) (.cond (.s 18) (.seq (gQ [gJ 4 0]) .ret) (.seq (gQ [gF 25 1 3, gL 26 25, gM 24 26]) (.cond (.s 24) (.seq (gQ [⟨gO, .mov 4 (.k (.int .i64 (-1)))⟩]) .ret) .skip))))) (.seq (gQ [gJ 4 1]) .ret)) (.seq (gQ [gU 28 .eql 15 2, gM 27 28]) (.cond (.s 27) (.seq (gQ [gF 29 2 2, gL 30 29, gF 31 2 3, gL 32 31, gC 33 149 [.s 30, .s 32], gM 4 33]) .ret) (.seq (gQ [gU 35 .eql 15 3, gM 34 35]) (.cond (.s 34) (.seq (gQ [gF 36 3 2, gL 37 36, gF 38 3 3, gL 39 38, gC 40 109 [.s 37, .s 39], gM 4 40]) .ret) (.seq (gQ [gU 42 .eql 15 4, gM 41 42]) (.cond (.s 41) (.seq (gQ [gF 43 4 2, gL 44 43, gF 45 4 3, gL 46 45, ⟨gO, .call (some 47) (.k (.fn 150 [])) [.s 44, .s 46, .k (.fn 101 [])]⟩, gM 4 47]) .ret) (.seq (gQ [gU 49 .eql 15 5, gM 48 49]) (.cond (.s 48) (.seq (gQ [gF 50 5 2, gL 51 50, gF 52 5 3, gL 53 52, ⟨gO, .call (some 54) (.k (.fn 151 [])) [.s 51, .s 53, .k (.fn 152 [])]⟩, gM 4 54]) .ret) .skip)))))))))))) (.seq (gQ [gJ 4 0]) .ret)))
def a_tree_Compare : AFn := ⟨2, 55, b_tree_Compare, [.tmp 4]⟩
theorem a_tree_Compare_ok : fnAF Tryz.prog [] Tryz.f101 = some a_tree_Compare := by kernel_rfl
theorem a_tree_Compare_cb : callable Tryz.prog 101 = true := by kernel_rfl
def b_tree_Compare_1 : ACode :=
 .seq (gQ [gP 2 0, gP 3 1, gJ 4 0]) (.seq (gQ [gF 5 0 2, gL 6 5, gF 7 0 3, gL 8 7, gC 9 109 [.s 6, .s 8], gF 10 1 2, gA 11 6 10, gF 12 1 3, gA 13 6 12, gC 14 101 [.s 11, .s 13], ⟨gO, .bsl 15 2 1 [.int .i64 0, .int .i64 0] [(0, 1, .s 9), (1, 1, .s 14)]⟩, gC 16 153 [.s 15], gM 4 16]) .ret)
def a_tree_Compare_1 : AFn := ⟨2, 17, b_tree_Compare_1, [.tmp 4]⟩
theorem a_tree_Compare_1_ok : fnAF Tryz.prog [] Tryz.f152 = some a_tree_Compare_1 := by kernel_rfl
theorem a_tree_Compare_1_cb : callable Tryz.prog 152 = true := by kernel_rfl
def b_cmp_Compare_int : ACode :=
 .seq (gQ [gJ 4 0]) (.seq (gQ [gM 7 0, gC 8 187 [.s 7], gM 5 8]) (.seq (gQ [gM 9 1, gC 10 187 [.s 9], gM 6 10]) (.seq (.seq (gQ [gM 11 5]) (.cond (.s 11) (.seq (.seq (gQ [gM 12 6]) (.cond (.s 12) (.seq (gQ [gJ 4 0]) .ret) .skip)) (.seq (gQ [⟨gO, .mov 4 (.k (.int .i64 (-1)))⟩]) .ret)) .skip)) (.seq (.seq (gQ [gM 13 6]) (.cond (.s 13) (.seq (gQ [gJ 4 1]) .ret) .skip)) (.seq (.seq (gQ [gM 14 0, gM 15 1, gV 16 .lss 14 15]) (.cond (.s 16) (.seq (gQ [⟨gO, .mov 4 (.k (.int .i64 (-1)))⟩]) .ret) .skip)) (.seq (.seq (gQ [gM 17 0, gM 18 1, gV 19 .gtr 17 18]) (.cond (.s 19) (.seq (gQ [gJ 4 1]) .ret) .skip)) (.seq (gQ [gJ 4 0]) .ret)))))))
def a_cmp_Compare_int : AFn := ⟨2, 20, b_cmp_Compare_int, [.tmp 4]⟩
theorem a_cmp_Compare_int_ok : fnAF Tryz.prog [] Tryz.f148 = some a_cmp_Compare_int := by kernel_rfl
theorem a_cmp_Compare_int_cb : callable Tryz.prog 148 = true := by kernel_rfl
def b_cmp_Compare_int64 : ACode :=
 .seq (gQ [gJ 4 0]) (.seq (gQ [gM 7 0, gC 8 188 [.s 7], gM 5 8]) (.seq (gQ [gM 9 1, gC 10 188 [.s 9], gM 6 10]) (.seq (.seq (gQ [gM 11 5]) (.cond (.s 11) (.seq (.seq (gQ [gM 12 6]) (.cond (.s 12) (.seq (gQ [gJ 4 0]) .ret) .skip)) (.seq (gQ [⟨gO, .mov 4 (.k (.int .i64 (-1)))⟩]) .ret)) .skip)) (.seq (.seq (gQ [gM 13 6]) (.cond (.s 13) (.seq (gQ [gJ 4 1]) .ret) .skip)) (.seq (.seq (gQ [gM 14 0, gM 15 1, gV 16 .lss 14 15]) (.cond (.s 16) (.seq (gQ [⟨gO, .mov 4 (.k (.int .i64 (-1)))⟩]) .ret) .skip)) (.seq (.seq (gQ [gM 17 0, gM 18 1, gV 19 .gtr 17 18]) (.cond (.s 19) (.seq (gQ [gJ 4 1]) .ret) .skip)) (.seq (gQ [gJ 4 0]) .ret)))))))
def a_cmp_Compare_int64 : AFn := ⟨2, 20, b_cmp_Compare_int64, [.tmp 4]⟩
theorem a_cmp_Compare_int64_ok : fnAF Tryz.prog [] Tryz.f149 = some a_cmp_Compare_int64 := by kernel_rfl
theorem a_cmp_Compare_int64_cb : callable Tryz.prog 149 = true := by kernel_rfl
def b_cmp_isNaN_int : ACode :=
 .seq (gQ [⟨gO, .mov 2 (.k (.bool false))⟩]) (.seq (gQ [gM 3 0, gM 4 0, gV 5 .neq 3 4, gM 2 5]) .ret)
def a_cmp_isNaN_int : AFn := ⟨1, 6, b_cmp_isNaN_int, [.tmp 2]⟩
theorem a_cmp_isNaN_int_ok : fnAF Tryz.prog [] Tryz.f187 = some a_cmp_isNaN_int := by kernel_rfl
theorem a_cmp_isNaN_int_cb : callable Tryz.prog 187 = true := by kernel_rfl
def b_cmp_isNaN_int64 : ACode :=
 .seq (gQ [⟨gO, .mov 2 (.k (.bool false))⟩]) (.seq (gQ [gM 3 0, gM 4 0, gV 5 .neq 3 4, gM 2 5]) .ret)
def a_cmp_isNaN_int64 : AFn := ⟨1, 6, b_cmp_isNaN_int64, [.tmp 2]⟩
theorem a_cmp_isNaN_int64_ok : fnAF Tryz.prog [] Tryz.f188 = some a_cmp_isNaN_int64 := by kernel_rfl
theorem a_cmp_isNaN_int64_cb : callable Tryz.prog 188 = true := by kernel_rfl
def b_cmp_Or_int : ACode :=
 .seq (gQ [gJ 2 0]) (.seq (gQ [gJ 3 0]) (.seq (.seq (gQ [gM 6 0, gH 7 false 6, gJ 8 0]) (.block 0 (.loop (.seq (gQ [gV 9 .lss 8 7]) (.seq (.cond (.s 9) .skip (.exit 0)) (.seq (.block 1 (.seq (gQ [gE 10 1 6 8, gL 11 10, gM 5 11]) (.seq (gQ [gM 12 5, gM 13 3, gV 14 .neq 12 13]) (.cond (.s 14) (.seq (gQ [gM 15 5, gM 2 15]) .ret) .skip)))) (.reg [gU 16 .add 8 1, gM 8 16]))))))) (.seq (gQ [gM 17 3, gM 2 17]) .ret)))
def a_cmp_Or_int : AFn := ⟨1, 18, b_cmp_Or_int, [.tmp 2]⟩
theorem a_cmp_Or_int_ok : fnAF Tryz.prog [] Tryz.f153 = some a_cmp_Or_int := by kernel_rfl
theorem a_cmp_Or_int_cb : callable Tryz.prog 153 = true := by kernel_rfl
def b_slices_CompareFunc_Value : ACode :=
 .seq (gQ [gJ 6 0]) (.seq (.seq (gQ [gM 11 0, gH 12 false 11, gJ 13 0]) (.block 0 (.loop (.seq (gQ [gV 14 .lss 13 12]) (.seq (.cond (.s 14) .skip (.exit 0)) (.seq (.block 1 (.seq (gQ [gM 15 13, gE 16 6 11 13, gA 17 6 16, ⟨gO, .alloc 8 gZ⟩, gM 7 15, gT 6 8 17]) (.seq (.seq (gQ [gM 18 7, gM 19 1, gH 20 false 19, gV 21 .geq 18 20]) (.cond (.s 21) (.seq (gQ [gJ 6 1]) .ret) .skip)) (.seq (gQ [gM 22 1, gM 23 7, gE 24 6 22 23, gA 25 6 24, ⟨gO, .alloc 9 gZ⟩, gT 6 9 25]) (.seq (gQ [gM 26 2, gA 27 6 8, gA 28 6 9, ⟨gO, .call (some 29) (.s 26) [.s 27, .s 28]⟩, gM 10 29]) (.seq (gQ [gM 30 10, gU 31 .neq 30 0]) (.cond (.s 31) (.seq (gQ [gM 32 10, gM 6 32]) .ret) .skip))))))) (.reg [gU 33 .add 13 1, gM 13 33]))))))) (.seq (.seq (gQ [gM 34 0, gH 35 false 34, gM 36 1, gH 37 false 36, gV 38 .lss 35 37]) (.cond (.s 38) (.seq (gQ [⟨gO, .mov 6 (.k (.int .i64 (-1)))⟩]) .ret) .skip)) (.seq (gQ [gJ 6 0]) .ret)))
def a_slices_CompareFunc_Value : AFn := ⟨3, 39, b_slices_CompareFunc_Value, [.tmp 6]⟩
theorem a_slices_CompareFunc_Value_ok : fnAF Tryz.prog [] Tryz.f150 = some a_slices_CompareFunc_Value := by kernel_rfl
theorem a_slices_CompareFunc_Value_cb : callable Tryz.prog 150 = true := by kernel_rfl
def b_slices_CompareFunc_Pair : ACode :=
 .seq (gQ [gJ 6 0]) (.seq (.seq (gQ [gM 11 0, gH 12 false 11, gJ 13 0]) (.block 0 (.loop (.seq (gQ [gV 14 .lss 13 12]) (.seq (.cond (.s 14) .skip (.exit 0)) (.seq (.block 1 (.seq (gQ [gM 15 13, gE 16 7 11 13, gA 17 7 16, ⟨gO, .alloc 8 [.str ⟨#[]⟩, .int .i64 0, .bool false, .int .i64 0, .str ⟨#[]⟩, .lst .nil 6 [], .lst .nil 7 []]⟩, gM 7 15, gT 7 8 17]) (.seq (.seq (gQ [gM 18 7, gM 19 1, gH 20 false 19, gV 21 .geq 18 20]) (.cond (.s 21) (.seq (gQ [gJ 6 1]) .ret) .skip)) (.seq (gQ [gM 22 1, gM 23 7, gE 24 7 22 23, gA 25 7 24, ⟨gO, .alloc 9 [.str ⟨#[]⟩, .int .i64 0, .bool false, .int .i64 0, .str ⟨#[]⟩, .lst .nil 6 [], .lst .nil 7 []]⟩, gT 7 9 25]) (.seq (gQ [gM 26 2, gA 27 7 8, gA 28 7 9, ⟨gO, .call (some 29) (.s 26) [.s 27, .s 28]⟩, gM 10 29]) (.seq (gQ [gM 30 10, gU 31 .neq 30 0]) (.cond (.s 31) (.seq (gQ [gM 32 10, gM 6 32]) .ret) .skip))))))) (.reg [gU 33 .add 13 1, gM 13 33]))))))) (.seq (.seq (gQ [gM 34 0, gH 35 false 34, gM 36 1, gH 37 false 36, gV 38 .lss 35 37]) (.cond (.s 38) (.seq (gQ [⟨gO, .mov 6 (.k (.int .i64 (-1)))⟩]) .ret) .skip)) (.seq (gQ [gJ 6 0]) .ret)))
def a_slices_CompareFunc_Pair : AFn := ⟨3, 39, b_slices_CompareFunc_Pair, [.tmp 6]⟩
theorem a_slices_CompareFunc_Pair_ok : fnAF Tryz.prog [] Tryz.f151 = some a_slices_CompareFunc_Pair := by kernel_rfl
theorem a_slices_CompareFunc_Pair_cb : callable Tryz.prog 151 = true := by kernel_rfl
end Go.Proofs.YtbfiopoefbbknaaGreatDoor
namespace Go.Proofs.YtbfiopoefbbknaaGreatDoor
open Go.RowKit
def cmpI (a b : Int) : Int := if a < b then -1 else if b < a then 1 else 0
def cmpBo (a b : Bool) : Int := if (a == b) = true then 0 else if b = true then -1 else 1
def cmpOr (c d : Int) : Int := if c ≠ 0 then c else d
mutual
def V.cmpC : V → V → Int
 | .mk k b n s l m, w => if cmpI k w.kind ≠ 0 then cmpI k w.kind else if k = 1 then cmpBo b w.b else if k = 2 then cmpI n w.n else if k = 3 then cmpS s w.s else if k = 4 then cmpL l w.l else if k = 5 then cmpM m w.m else 0
def cmpL : List V → List V → Int
 | [], [] => 0
 | [], _ :: _ => -1
 | _ :: _, [] => 1
 | x :: l, y :: w => if x.cmpC y ≠ 0 then x.cmpC y else cmpL l w
def cmpM : List (ByteArray × V) → List (ByteArray × V) → Int
 | [], [] => 0
 | [], _ :: _ => -1
 | _ :: _, [] => 1
 | (p, x) :: l, (q, y) :: w => if cmpOr (cmpS p q) (x.cmpC y) ≠ 0 then cmpOr (cmpS p q) (x.cmpC y) else cmpM l w
end
theorem V.cmpC_eq (v w : V) : v.cmpC w = if cmpI v.kind w.kind ≠ 0 then cmpI v.kind w.kind else if v.kind = 1 then cmpBo v.b w.b else if v.kind = 2 then cmpI v.n w.n else if v.kind = 3 then cmpS v.s w.s else if v.kind = 4 then cmpL v.l w.l else if v.kind = 5 then cmpM v.m w.m else 0 := by
 cases v; rw [V.cmpC]; rfl
theorem cmpI_eq {a b : Int} : cmpI a b = 0 ↔ a = b := by
 unfold cmpI
 split
 ·simp; omega
 ·split
  ·simp; omega
  ·simp; omega
theorem cmpBo_eq {a b : Bool} : cmpBo a b = 0 ↔ a = b := by cases a <;> cases b <;> simp [cmpBo]
theorem cmp_eq_all (n : Nat) : ∀ a b : V, a.size ≤ n → a.good → b.good → (a.cmpC b = 0 ↔ a = b) := by
 induction n with
 | zero => intro v _ h; have := v.size_pos; omega
 | succ n ih =>
  intro a b hn ha hb
  have e := a.size_eq
  have ka := (a.good_eq.1 ha).1
  have kb := (b.good_eq.1 hb).1
  have hL : ∀ l w : List V, sizeL l ≤ n → (∀ x ∈ l, x.good) → (∀ x ∈ w, x.good) → (cmpL l w = 0 ↔ l = w) := by
   intro l
   induction l with
   | nil => intro w _ _ _; cases w <;> simp [cmpL]
   | cons x l ihl =>
    intro w hs h1 h2
    simp only [sizeL] at hs
    cases w with
    | nil => simp [cmpL]
    | cons y w =>
     have i1 := ih x y (by omega) (h1 x (by simp)) (h2 y (by simp))
     have i2 := ihl w (by omega) (fun z hz => h1 z (by simp [hz])) (fun z hz => h2 z (by simp [hz]))
     rw [cmpL]
     split
     ·rename_i h
      constructor
      ·intro h'; exact absurd h' h
      ·intro h'; cases h'; exact absurd (i1.2 rfl) h
     ·rename_i h
      obtain rfl := i1.1 (by simpa using h)
      simp [i2]
  have hM : ∀ l w : List (ByteArray × V), sizeM l ≤ n → (∀ p ∈ l, p.2.good) → (∀ p ∈ w, p.2.good) → (cmpM l w = 0 ↔ l = w) := by
   intro l
   induction l with
   | nil => intro w _ _ _; cases w <;> simp [cmpM]
   | cons p l ihl =>
    obtain ⟨p, x⟩ := p
    intro w hs h1 h2
    simp only [sizeM] at hs
    cases w with
    | nil => simp [cmpM]
    | cons q w =>
     obtain ⟨q, y⟩ := q
     have i1 := ih x y (by omega) (h1 (p, x) (by simp)) (h2 (q, y) (by simp))
     have i2 := ihl w (by omega) (fun z hz => h1 z (by simp [hz])) (fun z hz => h2 z (by simp [hz]))
     have i3 : cmpOr (cmpS p q) (x.cmpC y) = 0 ↔ p = q ∧ x = y := by
      unfold cmpOr
      split
      ·rename_i h
       constructor
       ·intro h'; exact absurd h' h
       ·intro h'; exact absurd (cmpS_eq.2 h'.1) h
      ·rename_i h
       have := cmpS_eq.1 (show cmpS p q = 0 by simpa using h)
       simp [i1, this]
     rw [cmpM]
     split
     ·rename_i h
      constructor
      ·intro h'; exact absurd h' h
      ·intro h'; cases h'; exact absurd (i3.2 ⟨rfl, rfl⟩) h
     ·rename_i h
      obtain ⟨rfl, rfl⟩ := i3.1 (Decidable.not_not.1 h)
      simp [i2]
  have iL := hL a.l b.l (by omega) (fun x hx => good_l ha hx) (fun x hx => good_l hb hx)
  have iM := hM a.m b.m (by omega) (fun x hx => good_m ha hx) (fun x hx => good_m hb hx)
  rw [V.cmpC_eq, V.ext_iff']
  simp only [kbad, Bool.or_eq_false_iff, Bool.and_eq_false_iff, decide_eq_false_iff_not, Decidable.not_not, Nat.not_lt, Nat.le_zero, List.length_eq_zero_iff] at ka kb
  obtain ⟨⟨⟨⟨⟨⟨a0, a00⟩, a1⟩, a2⟩, a3⟩, a4⟩, a5⟩ := ka
  obtain ⟨⟨⟨⟨⟨⟨b0, b00⟩, b1⟩, b2⟩, b3⟩, b4⟩, b5⟩ := kb
  split
  ·rename_i h
   constructor
   ·intro h'; exact absurd h' h
   ·rintro ⟨h', _⟩; exact absurd (cmpI_eq.2 h') h
  ·rename_i h
   have hk : a.kind = b.kind := cmpI_eq.1 (by simpa using h)
   have := @cmpBo_eq a.b b.b
   have := @cmpI_eq a.n b.n
   have := @cmpS_eq a.s b.s
   rw [← hk] at b1 b2 b3 b4 b5 ⊢
   have hkk : a.kind = 0 ∨ a.kind = 1 ∨ a.kind = 2 ∨ a.kind = 3 ∨ a.kind = 4 ∨ a.kind = 5 := by omega
   clear ih hL hM hn e ha hb h hk b0 b00 a0 a00
   rcases hkk with h0 | h0 | h0 | h0 | h0 | h0 <;> simp [h0] at a1 a2 a3 a4 a5 b1 b2 b3 b4 b5 ⊢ <;> simp [*]
theorem V.cmp_eq {a b : V} (ha : a.good) (hb : b.good) : a.cmpC b = 0 ↔ a = b := cmp_eq_all a.size a b (Nat.le_refl _) ha hb
theorem V.cmp_same {a b : V} (ha : a.good) (hb : b.good) : decide (a.cmpC b = 0) = a.sameB b := by
 rw [V.sameB, decide_eq_decide]; exact V.cmp_eq ha hb
end Go.Proofs.YtbfiopoefbbknaaGreatDoor
/-
 The program's comparison of values, walked.
-/
namespace Go.Proofs.YtbfiopoefbbknaaGreatDoor
open Go.RowKit
theorem isNaN_a (n : Int) : AC Tryz.prog 187 [.int .i64 n] (.bool false) := by
 refine kE Tryz.func187 a_cmp_isNaN_int_ok a_cmp_isNaN_int_cb fun E hE => ?_
 refine kW ?_
 refine AK.ret ⟨_, rfl, ?_⟩
 exact congrArg AV.bool (by simp)
theorem isNaN64_a (n : Int) : AC Tryz.prog 188 [.int .i64 n] (.bool false) := by
 refine kE Tryz.func188 a_cmp_isNaN_int64_ok a_cmp_isNaN_int64_cb fun E hE => ?_
 refine kW ?_
 refine AK.ret ⟨_, rfl, ?_⟩
 exact congrArg AV.bool (by simp)
theorem cmpInt_a (a b : Int) : AC Tryz.prog 148 [.int .i64 a, .int .i64 b] (.int .i64 (cmpI a b)) := by
 refine kE Tryz.func148 a_cmp_Compare_int_ok a_cmp_Compare_int_cb fun E hE => ?_
 refine kW ?_
 refine kP [.v (.bool false)] ?_ ?_
 ·((repeat' apply And.intro) <;> first | exact kD | (intro hgd; refine ⟨?_, kG⟩; (repeat' apply And.intro) <;> first | exact kD | skip) | skip)
  ·exact isNaN_a a
 refine kW ?_
 refine kP [.v (.bool false)] ?_ ?_
 ·((repeat' apply And.intro) <;> first | exact kD | (intro hgd; refine ⟨?_, kG⟩; (repeat' apply And.intro) <;> first | exact kD | skip) | skip)
  ·exact isNaN_a b
 refine kW ?_
 refine kC (fun hb => ?_) fun hb => ?_
 ·cases hb
 refine kW ?_
 refine kC (fun hb => ?_) fun hb => ?_
 ·cases hb
 refine kW ?_
 refine kC (fun hb => ?_) fun hb => ?_
 ·have h : a < b := by simpa using hb
  refine kW ?_
  refine AK.ret ⟨_, rfl, ?_⟩
  exact congrArg (AV.int _) (by rw [cmpI, if_pos h])
 have h : ¬ a < b := by simpa using hb
 refine kW ?_
 refine kC (fun hb => ?_) fun hb => ?_
 ·have h2 : b < a := by simpa using hb
  refine kW ?_
  refine AK.ret ⟨_, rfl, ?_⟩
  exact congrArg (AV.int _) (by rw [cmpI, if_neg h, if_pos h2])
 have h2 : ¬ b < a := by simpa using hb
 refine kW ?_
 refine AK.ret ⟨_, rfl, ?_⟩
 exact congrArg (AV.int _) (by rw [cmpI, if_neg h, if_neg h2])
theorem cmpInt64_a (a b : Int) : AC Tryz.prog 149 [.int .i64 a, .int .i64 b] (.int .i64 (cmpI a b)) := by
 refine kE Tryz.func149 a_cmp_Compare_int64_ok a_cmp_Compare_int64_cb fun E hE => ?_
 refine kW ?_
 refine kP [.v (.bool false)] ?_ ?_
 ·((repeat' apply And.intro) <;> first | exact kD | (intro hgd; refine ⟨?_, kG⟩; (repeat' apply And.intro) <;> first | exact kD | skip) | skip)
  ·exact isNaN64_a a
 refine kW ?_
 refine kP [.v (.bool false)] ?_ ?_
 ·((repeat' apply And.intro) <;> first | exact kD | (intro hgd; refine ⟨?_, kG⟩; (repeat' apply And.intro) <;> first | exact kD | skip) | skip)
  ·exact isNaN64_a b
 refine kW ?_
 refine kC (fun hb => ?_) fun hb => ?_
 ·cases hb
 refine kW ?_
 refine kC (fun hb => ?_) fun hb => ?_
 ·cases hb
 refine kW ?_
 refine kC (fun hb => ?_) fun hb => ?_
 ·have h : a < b := by simpa using hb
  refine kW ?_
  refine AK.ret ⟨_, rfl, ?_⟩
  exact congrArg (AV.int _) (by rw [cmpI, if_pos h])
 have h : ¬ a < b := by simpa using hb
 refine kW ?_
 refine kC (fun hb => ?_) fun hb => ?_
 ·have h2 : b < a := by simpa using hb
  refine kW ?_
  refine AK.ret ⟨_, rfl, ?_⟩
  exact congrArg (AV.int _) (by rw [cmpI, if_neg h, if_pos h2])
 have h2 : ¬ b < a := by simpa using hb
 refine kW ?_
 refine AK.ret ⟨_, rfl, ?_⟩
 exact congrArg (AV.int _) (by rw [cmpI, if_neg h, if_neg h2])
theorem cmpOr_a (c d : Int) : AC Tryz.prog 153 [.lst .any 1 [[.int .i64 c], [.int .i64 d]]] (.int .i64 (cmpOr c d)) := by
 refine kE Tryz.func153 a_cmp_Or_int_ok a_cmp_Or_int_cb fun E hE => ?_
 refine kW ?_
 refine AK.loopI (fun k : Nat => (frOf [(3, .int .i64 0), (6, .lst .any 1 [[.int .i64 c], [.int .i64 d]]), (7, .int .i64 2), (8, .int .i64 k)], ⟨boxOf [], fun _ => 0⟩)) (fun k => k ≤ 2 ∧ (0 < k → c = 0) ∧ (1 < k → d = 0)) (fun k => 2 - k) 0 ⟨by omega, by omega, by omega⟩ (Weak.intro ⟨kI, kI, kI, kI, trivial⟩ trivial rfl rfl) fun k ⟨hk, h1, h2⟩ => ?_
 refine kW ?_
 refine kC (fun hb => ?_) fun hb => ?_
 ·have hlt : k < 2 := by
   have : (k : Int) < 2 := by simpa using hb
   omega
  obtain ⟨n, hn, hc⟩ : ∃ n, [[AV.int IntKind.i64 c], [AV.int IntKind.i64 d]][k]? = some [.int .i64 n] ∧ (n ≠ 0 → cmpOr c d = n) ∧ (n = 0 → (0 < k + 1 → c = 0) ∧ (1 < k + 1 → d = 0)) := by
   obtain rfl | rfl : k = 0 ∨ k = 1 := by omega
   ·exact ⟨c, rfl, fun h => by rw [cmpOr, if_pos h], fun h => ⟨fun _ => h, fun h => by omega⟩⟩
   ·have := h1 (by omega)
    exact ⟨d, rfl, fun h => by rw [cmpOr, if_neg (by simp [this])], fun h => ⟨fun _ => this, fun _ => h⟩⟩
  refine kW ?_
  refine kQ [.c [.int .i64 n]] ?_
  refine kW ?_
  refine kC (fun hb => ?_) fun hb => ?_
  ·have h : n ≠ 0 := by simpa using hb
   refine kW ?_
   refine AK.ret ⟨_, rfl, ?_⟩
   exact congrArg (AV.int _) (hc.1 h).symm
  ·have h : n = 0 := by simpa using hb
   refine kW ?_
   exact AK.lp ⟨k + 1, ⟨by omega, (hc.2 h).1, (hc.2 h).2⟩, Weak.intro ⟨kI, kI, kI, kU, trivial⟩ trivial rfl rfl, by omega⟩
 ·have hlt : k = 2 := by
   have : (2 : Int) ≤ k := by simpa using hb
   omega
  subst hlt
  refine AK.exit rfl ?_
  refine kW ?_
  refine AK.ret ⟨_, rfl, ?_⟩
  exact congrArg (AV.int _) (by rw [cmpOr, if_neg (by simp [h1 (by omega)]), h2 (by omega)])
theorem cmpL_drop {l w : List V} {k : Nat} {x y : V} (hx : l[k]? = some x) (hy : w[k]? = some y) : cmpL (l.drop k) (w.drop k) = if x.cmpC y ≠ 0 then x.cmpC y else cmpL (l.drop (k + 1)) (w.drop (k + 1)) := by
 rw [drop_at hx, drop_at hy, cmpL]
theorem cmpM_drop {l w : List (ByteArray × V)} {k : Nat} {p q : ByteArray} {x y : V} (hx : l[k]? = some (p, x)) (hy : w[k]? = some (q, y)) :
  cmpM (l.drop k) (w.drop k) = if cmpOr (cmpS p q) (x.cmpC y) ≠ 0 then cmpOr (cmpS p q) (x.cmpC y) else cmpM (l.drop (k + 1)) (w.drop (k + 1)) := by
 rw [drop_at hx, drop_at hy, cmpM]
theorem cmpFuncV_a (l w : List V) (hl : l.length ≤ 2000000000000) (hw : w.length ≤ 2000000000000) (h : ∀ x ∈ l, ∀ y ∈ w, AC Tryz.prog 101 [(vA (x)), (vA (y))] (.int .i64 (x.cmpC y))) :
  AC Tryz.prog 150 [.lst .any 6 (rowsV l), .lst .any 6 (rowsV w), .fn 101 []] (.int .i64 (cmpL l w)) := by
 refine kE Tryz.func150 a_slices_CompareFunc_Value_ok a_slices_CompareFunc_Value_cb fun E hE => ?_
 refine kW ?_
 refine AK.loopI (fun k : Nat => (frOf [(0, .lst .any 6 (rowsV l)), (1, .lst .any 6 (rowsV w)), (2, .fn 101 []), (11, .lst .any 6 (rowsV l)), (12, .int .i64 (rowsV l).length), (13, .int .i64 k)], ⟨boxOf [], fun _ => 0⟩)) (fun k => k ≤ l.length ∧ k ≤ w.length ∧ cmpL (l.drop k) (w.drop k) = cmpL l w) (fun k => l.length - k) 0 ⟨by omega, by omega, rfl⟩ (Weak.intro ⟨kI, kI, kI, kI, kI, kI, trivial⟩ trivial rfl rfl) fun k ⟨hk, hkw, hr⟩ => ?_
 refine kW ?_
 refine kC (fun hb => ?_) fun hb => ?_
 ·have hlt : k < l.length := by simpa [rowsV_len] using hb
  obtain ⟨x, hg⟩ : ∃ x, l[k]? = some x := ⟨_, List.getElem?_eq_getElem hlt⟩
  refine kW ?_
  refine kP [.c (vC (x))] ?_ ?_
  ·((repeat' apply And.intro) <;> first | exact kD | (intro hgd; refine ⟨?_, kG⟩; (repeat' apply And.intro) <;> first | exact kD | skip) | skip)
   ·exact rowsV_at hg
  refine kW ?_
  refine kC (fun hb => ?_) fun hb => ?_
  ·have hge : w.length ≤ k := by simpa [rowsV_len] using hb
   rw [drop_at hg, List.drop_eq_nil_of_le hge, cmpL] at hr
   refine kW ?_
   refine AK.ret ⟨_, rfl, ?_⟩
   exact congrArg (AV.int _) hr
  have hlt2 : k < w.length := by simpa [rowsV_len] using hb
  obtain ⟨y, hy⟩ : ∃ x, w[k]? = some x := ⟨_, List.getElem?_eq_getElem hlt2⟩
  rw [cmpL_drop hg hy] at hr
  refine kW ?_
  refine kP [.c (vC (y))] ?_ ?_
  ·((repeat' apply And.intro) <;> first | exact kD | (intro hgd; refine ⟨?_, kG⟩; (repeat' apply And.intro) <;> first | exact kD | skip) | skip)
   ·exact rowsV_at hy
  refine kW ?_
  refine kP [.v (.int .i64 (x.cmpC y))] ?_ ?_
  ·((repeat' apply And.intro) <;> first | exact kD | (intro hgd; refine ⟨?_, kG⟩; (repeat' apply And.intro) <;> first | exact kD | skip) | skip)
   ·exact h x (List.mem_of_getElem? hg) y (List.mem_of_getElem? hy)
  refine kW ?_
  refine kC (fun hb => ?_) fun hb => ?_
  ·have he : x.cmpC y ≠ 0 := by simpa using hb
   rw [if_pos he] at hr
   refine kW ?_
   refine AK.ret ⟨_, rfl, ?_⟩
   exact congrArg (AV.int _) hr
  ·have he : ¬ x.cmpC y ≠ 0 := by simpa using hb
   rw [if_neg he] at hr
   refine kW ?_
   exact AK.lp ⟨k + 1, ⟨by omega, by omega, hr⟩, Weak.intro ⟨kI, kI, kI, kI, kI, kU, trivial⟩ trivial rfl rfl, by omega⟩
 ·have hlt : k = l.length := by have : l.length ≤ k := by simpa [rowsV_len] using hb
                                omega
  subst hlt
  rw [List.drop_length] at hr
  refine AK.exit rfl ?_
  refine kW ?_
  refine kC (fun hb => ?_) fun hb => ?_
  ·have hlt2 : l.length < w.length := by simpa [rowsV_len] using hb
   obtain ⟨y, hy⟩ : ∃ x, w[l.length]? = some x := ⟨_, List.getElem?_eq_getElem hlt2⟩
   rw [drop_at hy, cmpL] at hr
   refine kW ?_
   refine AK.ret ⟨_, rfl, ?_⟩
   exact congrArg (AV.int _) hr
  ·have hlt2 : w.length ≤ l.length := by simpa [rowsV_len] using hb
   rw [List.drop_eq_nil_of_le hlt2, cmpL] at hr
   refine kW ?_
   refine AK.ret ⟨_, rfl, ?_⟩
   exact congrArg (AV.int _) hr
theorem cmpFuncM_a (l w : List (ByteArray × V)) (hl : l.length ≤ 2000000000000) (hw : w.length ≤ 2000000000000) (h : ∀ q ∈ l, ∀ p ∈ w, AC Tryz.prog 152 [.agg (.str q.1 :: (vC (q.2))), .agg (.str p.1 :: (vC (p.2)))] (.int .i64 (cmpOr (cmpS q.1 p.1) (q.2.cmpC p.2)))) :
  AC Tryz.prog 151 [.lst .any 7 (rowsM l), .lst .any 7 (rowsM w), .fn 152 []] (.int .i64 (cmpM l w)) := by
 refine kE Tryz.func151 a_slices_CompareFunc_Pair_ok a_slices_CompareFunc_Pair_cb fun E hE => ?_
 refine kW ?_
 refine AK.loopI (fun k : Nat => (frOf [(0, .lst .any 7 (rowsM l)), (1, .lst .any 7 (rowsM w)), (2, .fn 152 []), (11, .lst .any 7 (rowsM l)), (12, .int .i64 (rowsM l).length), (13, .int .i64 k)], ⟨boxOf [], fun _ => 0⟩)) (fun k => k ≤ l.length ∧ k ≤ w.length ∧ cmpM (l.drop k) (w.drop k) = cmpM l w) (fun k => l.length - k) 0 ⟨by omega, by omega, rfl⟩ (Weak.intro ⟨kI, kI, kI, kI, kI, kI, trivial⟩ trivial rfl rfl) fun k ⟨hk, hkw, hr⟩ => ?_
 refine kW ?_
 refine kC (fun hb => ?_) fun hb => ?_
 ·have hlt : k < l.length := by simpa [rowsM_len] using hb
  obtain ⟨⟨p, x⟩, hg⟩ : ∃ x, l[k]? = some x := ⟨_, List.getElem?_eq_getElem hlt⟩
  refine kW ?_
  refine kP [.c (.str p :: (vC (x)))] ?_ ?_
  ·((repeat' apply And.intro) <;> first | exact kD | (intro hgd; refine ⟨?_, kG⟩; (repeat' apply And.intro) <;> first | exact kD | skip) | skip)
   ·exact rowsM_at hg
  refine kW ?_
  refine kC (fun hb => ?_) fun hb => ?_
  ·have hge : w.length ≤ k := by simpa [rowsM_len] using hb
   rw [drop_at hg, List.drop_eq_nil_of_le hge, cmpM] at hr
   refine kW ?_
   refine AK.ret ⟨_, rfl, ?_⟩
   exact congrArg (AV.int _) hr
  have hlt2 : k < w.length := by simpa [rowsM_len] using hb
  obtain ⟨⟨q, y⟩, hy⟩ : ∃ x, w[k]? = some x := ⟨_, List.getElem?_eq_getElem hlt2⟩
  rw [cmpM_drop hg hy] at hr
  refine kW ?_
  refine kP [.c (.str q :: (vC (y)))] ?_ ?_
  ·((repeat' apply And.intro) <;> first | exact kD | (intro hgd; refine ⟨?_, kG⟩; (repeat' apply And.intro) <;> first | exact kD | skip) | skip)
   ·exact rowsM_at hy
  refine kW ?_
  refine kP [.v (.int .i64 (cmpOr (cmpS p q) (x.cmpC y)))] ?_ ?_
  ·((repeat' apply And.intro) <;> first | exact kD | (intro hgd; refine ⟨?_, kG⟩; (repeat' apply And.intro) <;> first | exact kD | skip) | skip)
   ·exact h (p, x) (List.mem_of_getElem? hg) (q, y) (List.mem_of_getElem? hy)
  refine kW ?_
  refine kC (fun hb => ?_) fun hb => ?_
  ·have he : cmpOr (cmpS p q) (x.cmpC y) ≠ 0 := by simpa using hb
   rw [if_pos he] at hr
   refine kW ?_
   refine AK.ret ⟨_, rfl, ?_⟩
   exact congrArg (AV.int _) hr
  ·have he : ¬ cmpOr (cmpS p q) (x.cmpC y) ≠ 0 := by simpa using hb
   rw [if_neg he] at hr
   refine kW ?_
   exact AK.lp ⟨k + 1, ⟨by omega, by omega, hr⟩, Weak.intro ⟨kI, kI, kI, kI, kI, kU, trivial⟩ trivial rfl rfl, by omega⟩
 ·have hlt : k = l.length := by have : l.length ≤ k := by simpa [rowsM_len] using hb
                                omega
  subst hlt
  rw [List.drop_length] at hr
  refine AK.exit rfl ?_
  refine kW ?_
  refine kC (fun hb => ?_) fun hb => ?_
  ·have hlt2 : l.length < w.length := by simpa [rowsM_len] using hb
   obtain ⟨⟨q, y⟩, hy⟩ : ∃ x, w[l.length]? = some x := ⟨_, List.getElem?_eq_getElem hlt2⟩
   rw [drop_at hy, cmpM] at hr
   refine kW ?_
   refine AK.ret ⟨_, rfl, ?_⟩
   exact congrArg (AV.int _) hr
  ·have hlt2 : w.length ≤ l.length := by simpa [rowsM_len] using hb
   rw [List.drop_eq_nil_of_le hlt2, cmpM] at hr
   refine kW ?_
   refine AK.ret ⟨_, rfl, ?_⟩
   exact congrArg (AV.int _) hr
theorem compare1_a (p q : ByteArray) (x y : V) (h : AC Tryz.prog 101 [(vA (x)), (vA (y))] (.int .i64 (x.cmpC y))) :
  AC Tryz.prog 152 [.agg (.str p :: (vC (x))), .agg (.str q :: (vC (y)))] (.int .i64 (cmpOr (cmpS p q) (x.cmpC y))) := by
 refine kE Tryz.func152 a_tree_Compare_1_ok a_tree_Compare_1_cb fun E hE => ?_
 refine kW ?_
 refine kP [.v (.int .i64 (cmpS p q)), .v (.int .i64 (x.cmpC y)), .v (.int .i64 (cmpOr (cmpS p q) (x.cmpC y)))] ?_ ?_
 ·((repeat' apply And.intro) <;> first | exact kD | (intro hgd; refine ⟨?_, kG⟩; (repeat' apply And.intro) <;> first | exact kD | skip) | skip)
  ·exact strCompare_a p q
  ·exact cmpOr_a _ _
 refine kW ?_
 refine AK.ret ⟨_, rfl, ?_⟩
 rfl
theorem cmpC_first {v w : V} {c : Int} (h : cmpI v.kind w.kind = c) (hc : c ≠ 0) : v.cmpC w = c := by rw [V.cmpC_eq, h, if_pos hc]
theorem cmpC_rest {v w : V} (h : cmpI v.kind w.kind = 0) : v.cmpC w = if v.kind = 1 then cmpBo v.b w.b else if v.kind = 2 then cmpI v.n w.n else if v.kind = 3 then cmpS v.s w.s else if v.kind = 4 then cmpL v.l w.l else if v.kind = 5 then cmpM v.m w.m else 0 := by
 rw [V.cmpC_eq, h, if_neg (by simp)]
theorem compare_a (n : Nat) : ∀ a b : V, a.size ≤ n → a.size ≤ 2000000000000 → b.size ≤ 2000000000000 → AC Tryz.prog 101 [(vA (a)), (vA (b))] (.int .i64 (a.cmpC b)) := by
 induction n with
 | zero => intro v _ h; have := v.size_pos; omega
 | succ n ih =>
  intro a b hn hsz hszb
  have hve := a.size_eq
  have hll := len_le_sizeL a.l
  have hlm := len_le_sizeM a.m
  have hveb := b.size_eq
  have hllb := len_le_sizeL b.l
  have hlmb := len_le_sizeM b.m
  refine kE Tryz.func101 a_tree_Compare_ok a_tree_Compare_cb fun E hE => ?_
  refine kW ?_
  refine kP [.v (.int .i64 (cmpI a.kind b.kind))] ?_ ?_
  ·((repeat' apply And.intro) <;> first | exact kD | (intro hgd; refine ⟨?_, kG⟩; (repeat' apply And.intro) <;> first | exact kD | skip) | skip)
   ·exact cmpInt_a _ _
  refine kW ?_
  refine kC (fun hb => ?_) fun hb => ?_
  ·have h : cmpI a.kind b.kind ≠ 0 := by simpa using hb
   refine kW ?_
   refine AK.ret ⟨_, rfl, ?_⟩
   exact congrArg (AV.int _) (cmpC_first rfl h).symm
  have h : cmpI a.kind b.kind = 0 := by simpa using hb
  rw [cmpC_rest h]
  refine kW ?_
  refine kC (fun hb => ?_) fun hb => ?_
  ·have hk : a.kind = 1 := by simpa using hb
   rw [if_pos hk]
   refine kW ?_
   refine kC (fun hb => ?_) fun hb => ?_
   ·refine kW ?_
    refine AK.ret ⟨_, rfl, ?_⟩
    exact congrArg (AV.int _) (by rw [cmpBo, if_pos hb])
   refine kW ?_
   have h1 : ¬ (a.b == b.b) = true := by rw [hb]; decide
   refine kC (fun hb => ?_) fun hb => ?_
   ·refine kW ?_
    refine AK.ret ⟨_, rfl, ?_⟩
    exact congrArg (AV.int _) (by rw [cmpBo, if_neg h1, if_pos hb])
   ·refine kW ?_
    refine AK.ret ⟨_, rfl, ?_⟩
    exact congrArg (AV.int _) (by rw [cmpBo, if_neg h1, if_neg (by simp [hb])])
  have hk : ¬ a.kind = 1 := by simpa using hb
  rw [if_neg hk]
  refine kW ?_
  refine kC (fun hb => ?_) fun hb => ?_
  ·have hk : a.kind = 2 := by simpa using hb
   rw [if_pos hk]
   refine kW ?_
   refine kP [.v (.int .i64 (cmpI a.n b.n))] ?_ ?_
   ·((repeat' apply And.intro) <;> first | exact kD | (intro hgd; refine ⟨?_, kG⟩; (repeat' apply And.intro) <;> first | exact kD | skip) | skip)
    ·exact cmpInt64_a _ _
   refine kW ?_
   refine AK.ret ⟨_, rfl, ?_⟩
   rfl
  have hk : ¬ a.kind = 2 := by simpa using hb
  rw [if_neg hk]
  refine kW ?_
  refine kC (fun hb => ?_) fun hb => ?_
  ·have hk : a.kind = 3 := by simpa using hb
   rw [if_pos hk]
   refine kW ?_
   refine kP [.v (.int .i64 (cmpS a.s b.s))] ?_ ?_
   ·((repeat' apply And.intro) <;> first | exact kD | (intro hgd; refine ⟨?_, kG⟩; (repeat' apply And.intro) <;> first | exact kD | skip) | skip)
    ·exact strCompare_a _ _
   refine kW ?_
   refine AK.ret ⟨_, rfl, ?_⟩
   rfl
  have hk : ¬ a.kind = 3 := by simpa using hb
  rw [if_neg hk]
  refine kW ?_
  refine kC (fun hb => ?_) fun hb => ?_
  ·have hk : a.kind = 4 := by simpa using hb
   rw [if_pos hk]
   refine kW ?_
   refine kP [.v (.int .i64 (cmpL a.l b.l))] ?_ ?_
   ·((repeat' apply And.intro) <;> first | exact kD | (intro hgd; refine ⟨?_, kG⟩; (repeat' apply And.intro) <;> first | exact kD | skip) | skip)
    ·exact cmpFuncV_a _ _ (by omega) (by omega) fun x hx y hy => ih x y (by have := mem_size hx; omega) (by have := mem_size hx; omega) (by have := mem_size hy; omega)
   refine kW ?_
   refine AK.ret ⟨_, rfl, ?_⟩
   rfl
  have hk : ¬ a.kind = 4 := by simpa using hb
  rw [if_neg hk]
  refine kW ?_
  refine kC (fun hb => ?_) fun hb => ?_
  ·have hk : a.kind = 5 := by simpa using hb
   rw [if_pos hk]
   refine kW ?_
   refine kP [.v (.int .i64 (cmpM a.m b.m))] ?_ ?_
   ·((repeat' apply And.intro) <;> first | exact kD | (intro hgd; refine ⟨?_, kG⟩; (repeat' apply And.intro) <;> first | exact kD | skip) | skip)
    ·exact cmpFuncM_a _ _ (by omega) (by omega) fun q hq p hp => compare1_a q.1 p.1 q.2 p.2 (ih q.2 p.2 (by have := mem_sizeM hq; omega) (by have := mem_sizeM hq; omega) (by have := mem_sizeM hp; omega))
   refine kW ?_
   refine AK.ret ⟨_, rfl, ?_⟩
   rfl
  have hk : ¬ a.kind = 5 := by simpa using hb
  rw [if_neg hk]
  refine kW ?_
  refine AK.ret ⟨_, rfl, ?_⟩
  rfl
theorem treeSame_a (a b : V) (ha : a.good) (hb : b.good) (hsz : a.size ≤ 2000000000000) (hszb : b.size ≤ 2000000000000) : AC Tryz.prog 61 [(vA (a)), (vA (b))] (.bool (a.sameB b)) := by
 rw [← V.cmp_same ha hb]
 refine kE Tryz.func61 a_tree_Same_ok a_tree_Same_cb fun E hE => ?_
 refine kW ?_
 refine kP [.v (.int .i64 (a.cmpC b))] ?_ ?_
 ·((repeat' apply And.intro) <;> first | exact kD | (intro hgd; refine ⟨?_, kG⟩; (repeat' apply And.intro) <;> first | exact kD | skip) | skip)
  ·exact compare_a _ a b (Nat.le_refl _) hsz hszb
 refine kW ?_
 refine AK.ret ⟨_, rfl, ?_⟩
 rfl
theorem pair_a (k : ByteArray) (v : V) : AC Tryz.prog 57 [.str k, (vA (v))] (.agg (.str k :: (vC (v)))) := by
 refine kE Tryz.func57 a_record_Encode_1_ok a_record_Encode_1_cb fun E hE => ?_
 refine kW ?_
 refine AK.ret ⟨_, rfl, ?_⟩
 rfl
theorem rises_recM (r : Rc) : Rises (recM r) := by
 have key : ([kChart, kCommand, kManifest, kRelease, kRevision, kStatus, kValues] : List ByteArray).Pairwise (fun a b => Op.bytesLess a.toList b.toList = true) := by decide +kernel
 have e : (recM r).map (·.1) = [kChart, kCommand, kManifest, kRelease, kRevision, kStatus, kValues] := rfl
 rw [← e, List.pairwise_map] at key
 exact key
def Rc.w (r : Rc) : Prop := (-9223372036854775808 ≤ r.rev ∧ r.rev ≤ 9223372036854775807) ∧ (-9223372036854775808 ≤ r.st ∧ r.st ≤ 9223372036854775807) ∧ (-9223372036854775808 ≤ r.cmd ∧ r.cmd ≤ 9223372036854775807)
theorem encode_a (r : Rc) : AC Tryz.prog 27 [.agg (rcA r)] ((vA ((recV r)))) := by
 have hM := treeMap_a (recM r) (by simp [recM, sizeM, V.size, V.str, V.int, sizeL])
 rw [mapOf_rises (rises_recM r)] at hM
 refine kE Tryz.func27 a_record_Encode_ok a_record_Encode_cb fun E hE => ?_
 refine kW ?_
 refine kP [.v ((vA ((V.str r.ch)))), .v (.agg (.str kChart :: (vC ((V.str r.ch))))), .v ((vA ((V.int r.cmd)))), .v (.agg (.str kCommand :: (vC ((V.int r.cmd))))), .v ((vA ((V.str r.ma)))), .v (.agg (.str kManifest :: (vC ((V.str r.ma))))), .v ((vA ((V.str r.rel)))), .v (.agg (.str kRelease :: (vC ((V.str r.rel))))), .v ((vA ((V.int r.rev)))), .v (.agg (.str kRevision :: (vC ((V.int r.rev))))), .v ((vA ((V.int r.st)))), .v (.agg (.str kStatus :: (vC ((V.int r.st))))), .v ((vA ((V.str r.va)))), .v (.agg (.str kValues :: (vC ((V.str r.va))))), .v ((vA ((recV r))))] ?_ ?_
 ·((repeat' apply And.intro) <;> first | exact kD | (intro hgd; refine ⟨?_, kG⟩; (repeat' apply And.intro) <;> first | exact kD | skip) | skip)
  all_goals first | exact treeStr_a _ | exact treeInt_a _ | exact pair_a _ _ | exact hM | skip
 refine kW ?_
 refine AK.ret ⟨_, rfl, ?_⟩
 rfl
theorem text_a (a b c : ByteArray) (v x : V) (key : ByteArray) (hg : v.good) (hsz : v.size ≤ 1000000000000) (h : mfind key v.m = some x) : AC Tryz.prog 59 [.str key, .ro (.str a :: .str b :: .str c :: (vC (v)))] (.str x.s) := by
 have hG := treeGet_some clone_ok hg hsz h
 refine kE Tryz.func59 a_record_Decode_1_ok a_record_Decode_1_cb fun E hE => ?_
 refine kW ?_
 refine kQ [.v (.tup [(vA (x)), .bool true])] ?_
 refine kW ?_
 refine AK.ret ⟨_, rfl, ?_⟩
 rfl
theorem recNum_a (a b c : ByteArray) (v x : V) (key : ByteArray) (hg : v.good) (hsz : v.size ≤ 1000000000000) (h : mfind key v.m = some x) : AC Tryz.prog 60 [.str key, .ro (.str a :: .str b :: .str c :: (vC (v)))] (.int .i64 x.n) := by
 have hG := treeGet_some clone_ok hg hsz h
 refine kE Tryz.func60 a_record_Decode_2_ok a_record_Decode_2_cb fun E hE => ?_
 refine kW ?_
 refine kQ [.v (.tup [(vA (x)), .bool true])] ?_
 refine kW ?_
 refine AK.ret ⟨_, rfl, ?_⟩
 rfl
def rc0 : List AV := [.str ⟨#[]⟩, .int .i64 0, .int .i64 0, .int .i64 0, .str ⟨#[]⟩, .str ⟨#[]⟩, .str ⟨#[]⟩]
set_option maxHeartbeats 1000000 in
theorem decode_a (a : Rc) (b : ByteArray) (n : Nat) (ha : rcOk a = true) (hz : a.sz) (hw : a.w) (hb : nameB b = true) (h1 : 1 ≤ n) (h2 : n ≤ 1000000) :
  AC Tryz.prog 28 [.agg ([.str hidB, .str defB, .str (idB b n)] ++ (vC ((recV a))))] (if a.rel = b ∧ a.rev = n then .tup [.agg (rcA a), .int .i64 0] else .tup [.agg rc0, .int .i64 35]) := by
 have hg := rec_good ha
 have hsz : (recV a).size ≤ 1000000000000 := by rw [rec_size]; omega
 have f1 : mfind kChart (recV a).m = some (V.str a.ch) := rfl
 have hO := owner_a b n hb h1 h2
 have hE := encode_a a
 have hR := recRight_a a hz
 rw [ha] at hR
 have hS := treeSame_a (recV a) (recV a) hg hg (by rw [rec_size]; omega) (by rw [rec_size]; omega)
 rw [V.sameB_true.2 rfl] at hS
 have t1 := text_a hidB defB (idB b n) (recV a) (V.str a.rel) kRelease hg hsz rfl
 have t2 := recNum_a hidB defB (idB b n) (recV a) (V.int a.rev) kRevision hg hsz rfl
 have t3 := recNum_a hidB defB (idB b n) (recV a) (V.int a.st) kStatus hg hsz rfl
 have t4 := recNum_a hidB defB (idB b n) (recV a) (V.int a.cmd) kCommand hg hsz rfl
 have t5 := text_a hidB defB (idB b n) (recV a) (V.str a.ch) kChart hg hsz rfl
 have t6 := text_a hidB defB (idB b n) (recV a) (V.str a.va) kValues hg hsz rfl
 have t7 := text_a hidB defB (idB b n) (recV a) (V.str a.ma) kManifest hg hsz rfl
 clear f1
 generalize recV a = v at *
 generalize idB b n = nm at *
 refine kE Tryz.func28 a_record_Decode_ok a_record_Decode_cb fun E hE => ?_
 refine kW ?_
 refine kP [.v (.str a.rel), .v (.int .i64 a.rev), .v (.int .i64 a.st), .v (.int .i64 a.cmd), .v (.str a.ch), .v (.str a.va), .v (.str a.ma)] ?_ ?_
 ·((repeat' apply And.intro) <;> first | exact kD | (intro hgd; refine ⟨?_, kG⟩; (repeat' apply And.intro) <;> first | exact kD | skip) | skip)
  all_goals first | exact t1 | exact t2 | exact t3 | exact t4 | exact t5 | exact t6 | exact t7 | skip
 refine kW ?_
 refine kQ [.v (.tup [.str b, .int .i64 n, .bool true])] ?_
 refine kW ?_
 refine kP [.v (.bool true), .v ((vA (v))), .v (.bool true)] ?_ ?_
 ·((repeat' apply And.intro) <;> first | exact kD | (intro hgd; refine ⟨?_, kG⟩; (repeat' apply And.intro) <;> first | exact kD | skip) | skip)
  all_goals first | exact hE | exact hS | exact hR | skip
 refine kC (fun hb => ?_) fun hb => ?_
 ·have hne : ¬ (a.rel = b ∧ a.rev = n) := by
   rintro ⟨e1, e2⟩
   simp [e1, e2] at hb
  rw [if_neg hne]
  refine kW ?_
  refine AK.ret ⟨_, rfl, ?_⟩
  rfl
 ·have he : a.rel = b ∧ a.rev = n := by
   simp at hb
   exact ⟨hb.1.symm, hb.2.symm⟩
  rw [if_pos he]
  refine kW ?_
  refine AK.ret ⟨_, rfl, ?_⟩
  rfl
end Go.Proofs.YtbfiopoefbbknaaGreatDoor
namespace Go.Proofs.YtbfiopoefbbknaaGreatDoor
open Go.ChangeShapes Go.WideShapes Go.ChangeAt Go.RowKit Go.Deep
theorem cellsRc : Tryz.prog.cellsOf 48 = 7 := by kernel_rfl
theorem int_wf {n : Int} (h : (Lit.int .i64 n).wf = true) : -9223372036854775808 ≤ n ∧ n ≤ 9223372036854775807 := by
 simpa [Lit.wf, IntKind.min, IntKind.max, IntKind.signed, IntKind.bits] using h
theorem rc_arg {H : Type} {enc : TypeId × Value → H} {W : World} {base : Nat} {spare : Nat → Bool} {held : Bool} {v : Value} {d : DataW H} {p : List MemPlace} (hv : ∃ cs : Array Value, v = .agg cs) (h : DataW.Trod enc Tryz.prog W base spare held 48 v d p) (hw : WtOk Tryz.prog 48 d) :
  ∃ r : Rc, RelP (σW W) v (.agg (rcA r)) ∧ r.sz ∧ r.w := by
 obtain ⟨cs, rfl⟩ := hv
 obtain ⟨fuel, hf⟩ := h
 obtain ⟨xs, m, _, hy, hl, hxl, hf⟩ := DataW.trod_struct Tryz.underlying48 hf
 rw [cellsRc] at hl
 obtain ⟨c0, c1, c2, c3, c4, c5, c6, hcs⟩ := list7 hl
 rw [hcs] at hf
 obtain ⟨x0, x1, x2, x3, x4, x5, x6, rfl⟩ := list7 (show xs.length = 7 from hxl)
 have hw' : WtOk Tryz.prog 48 (.agg ([x0, x1, x2, x3, x4, x5, x6].map (·.1))) := by
  have hd : d = .agg ([x0, x1, x2, x3, x4, x5, x6].map (·.1)) := congrArg Prod.fst hy
  exact hd ▸ hw
 have f0 : DataW.trod enc Tryz.prog W base spare held m 9 (List.take (Tryz.prog.cellsOf 9) (List.drop 0 [c0, c1, c2, c3, c4, c5, c6])) = some x0 := hf 0 _ rfl
 have f1 : DataW.trod enc Tryz.prog W base spare held m 3 (List.take (Tryz.prog.cellsOf 3) (List.drop 1 [c0, c1, c2, c3, c4, c5, c6])) = some x1 := hf 1 _ rfl
 have f2 : DataW.trod enc Tryz.prog W base spare held m 3 (List.take (Tryz.prog.cellsOf 3) (List.drop 2 [c0, c1, c2, c3, c4, c5, c6])) = some x2 := hf 2 _ rfl
 have f3 : DataW.trod enc Tryz.prog W base spare held m 3 (List.take (Tryz.prog.cellsOf 3) (List.drop 3 [c0, c1, c2, c3, c4, c5, c6])) = some x3 := hf 3 _ rfl
 have f4 : DataW.trod enc Tryz.prog W base spare held m 9 (List.take (Tryz.prog.cellsOf 9) (List.drop 4 [c0, c1, c2, c3, c4, c5, c6])) = some x4 := hf 4 _ rfl
 have f5 : DataW.trod enc Tryz.prog W base spare held m 9 (List.take (Tryz.prog.cellsOf 9) (List.drop 5 [c0, c1, c2, c3, c4, c5, c6])) = some x5 := hf 5 _ rfl
 have f6 : DataW.trod enc Tryz.prog W base spare held m 9 (List.take (Tryz.prog.cellsOf 9) (List.drop 6 [c0, c1, c2, c3, c4, c5, c6])) = some x6 := hf 6 _ rfl
 have w0 : WtOk Tryz.prog 9 x0.1 := WtOk.part Tryz.underlying48 hw' (j := 0) rfl rfl
 have w4 : WtOk Tryz.prog 9 x4.1 := WtOk.part Tryz.underlying48 hw' (j := 4) rfl rfl
 have w5 : WtOk Tryz.prog 9 x5.1 := WtOk.part Tryz.underlying48 hw' (j := 5) rfl rfl
 have w6 : WtOk Tryz.prog 9 x6.1 := WtOk.part Tryz.underlying48 hw' (j := 6) rfl rfl
 simp only [cellsS, cellsI, List.drop_succ_cons, List.drop_zero, List.take_succ_cons, List.take_zero] at f0 f1 f2 f3 f4 f5 f6
 obtain ⟨s0, e0, y0, _⟩ := DataW.trod_string Tryz.underlying9 f0
 obtain ⟨n1, e1, _, v1⟩ := DataW.trod_int Tryz.underlying3 f1
 obtain ⟨n2, e2, _, v2⟩ := DataW.trod_int Tryz.underlying3 f2
 obtain ⟨n3, e3, _, v3⟩ := DataW.trod_int Tryz.underlying3 f3
 obtain ⟨s4, e4, y4, _⟩ := DataW.trod_string Tryz.underlying9 f4
 obtain ⟨s5, e5, y5, _⟩ := DataW.trod_string Tryz.underlying9 f5
 obtain ⟨s6, e6, y6, _⟩ := DataW.trod_string Tryz.underlying9 f6
 injection e0 with e0; injection e1 with e1; injection e2 with e2; injection e3 with e3; injection e4 with e4; injection e5 with e5; injection e6 with e6
 subst e0 e1 e2 e3 e4 e5 e6
 rw [y0] at w0
 rw [y4] at w4
 rw [y5] at w5
 rw [y6] at w6
 have hcs' : cs.toList = [.string s0, .int .i64 n1, .int .i64 n2, .int .i64 n3, .string s4, .string s5, .string s6] := hcs
 refine ⟨⟨s0, n1, n2, n3, s4, s5, s6⟩, ⟨cs.toList, by simp, ?_⟩, ⟨str_wt w0, str_wt w4, str_wt w5, str_wt w6⟩, int_wf v1, int_wf v2, int_wf v3⟩
 rw [hcs']
 exact .cons (.str _) (.cons (.int _ _) (.cons (.int _ _) (.cons (.int _ _) (.cons (.str _) (.cons (.str _) (.cons (.str _) .nil))))))
abbrev rcW : Value := .agg #[.string ⟨#[]⟩, .int .i64 0, .int .i64 0, .int .i64 0, .string ⟨#[]⟩, .string ⟨#[]⟩, .string ⟨#[]⟩]
abbrev rcD {H : Type} : DataW H := .agg [.lit (.string []), .lit (.int .i64 0), .lit (.int .i64 0), .lit (.int .i64 0), .lit (.string []), .lit (.string []), .lit (.string [])]
end Go.Proofs.YtbfiopoefbbknaaGreatDoor
namespace Go.Proofs.YtbfiopoefbbknaaGreatDoor
set_option maxRecDepth 100000
def b_ref04_Digits : ACode :=
 .seq (gQ [⟨gO, .mov 2 (gS ⟨#[]⟩)⟩]) (.seq (gQ [⟨gO, .mov 3 (gS ⟨#[]⟩)⟩]) (.seq (gQ [gM 6 0, gU 7 .lss 6 0, gM 4 7]) (.seq (.block 0 (.loop (.block 1 (.seq (gQ [gM 8 0, gU 9 .rem 8 10, gM 5 9]) (.seq (.seq (gQ [gM 10 5, gU 11 .lss 10 0]) (.cond (.s 11) (.reg [gM 12 5, ⟨gO, .un 13 .neg (.s 12)⟩, gM 5 13]) .skip)) (.seq (gQ [gM 14 5, ⟨gO, gB 15 .add (gI 48) (.s 14)⟩, ⟨gO, .conv 16 .u8 (.s 15)⟩, ⟨gO, .bsl 17 1 1 [.int .u8 0] [(0, 1, .s 16)]⟩, ⟨gO, .b2s 18 (.s 17)⟩, gM 19 3, gV 20 .add 18 19, gM 3 20]) (.seq (gQ [gM 21 0, gU 22 .quo 21 10, gM 0 22]) (.seq (gQ [gM 23 0, gU 24 .eql 23 0]) (.cond (.s 24) (.exit 0) .skip))))))))) (.seq (.seq (gQ [gM 25 4]) (.cond (.s 25) (.seq (gQ [gM 26 3, ⟨gO, gB 27 .add (gS ⟨#[45]⟩) (.s 26)⟩, gM 2 27]) .ret) .skip)) (.seq (gQ [gM 28 3, gM 2 28]) .ret)))))
def a_ref04_Digits : AFn := ⟨1, 29, b_ref04_Digits, [.tmp 2]⟩
theorem a_ref04_Digits_ok : fnAF Tryz.prog [] Tryz.f70 = some a_ref04_Digits := by kernel_rfl
theorem a_ref04_Digits_cb : callable Tryz.prog 70 = true := by kernel_rfl
end Go.Proofs.YtbfiopoefbbknaaGreatDoor
namespace Go.Proofs.YtbfiopoefbbknaaGreatDoor
open Go.RowKit
theorem decD_eq (m : Nat) : Lib.decDigits m = if m < 10 then [UInt8.ofNat (48 + m)] else Lib.decDigits (m / 10) ++ [UInt8.ofNat (48 + m % 10)] := by
 rw [Lib.decDigits]
 split <;> rfl
theorem decD_len : ∀ (k m : Nat), m < 10 ^ (k + 1) → (Lib.decDigits m).length ≤ k + 1 := by
 intro k
 induction k with
 | zero => intro m h; rw [decD_eq, if_pos (by omega)]; simp
 | succ k ih =>
  intro m h
  rw [decD_eq]
  split
  ·simp
  ·have : m / 10 < 10 ^ (k + 1) := by rw [Nat.div_lt_iff_lt_mul (by omega)]; rw [Nat.pow_succ] at h; exact h
   have := ih _ this
   rw [List.length_append, List.length_singleton]
   omega
theorem cons_ba (c : UInt8) (s : List UInt8) : (ByteArray.mk #[c] ++ ByteArray.mk s.toArray) = ⟨(c :: s).toArray⟩ := by
 have : ∀ a b : ByteArray, a.data.toList = b.data.toList → a = b := by
  intro a b h
  cases a; cases b
  congr 1
  exact Array.toList_inj.1 h
 refine this _ _ ?_
 rw [ByteArray.data_append, Array.toList_append]
 simp
theorem digitsP_a (n : Nat) (hn : n ≤ 9223372036854775807) : AC Tryz.prog 70 [.int .i64 n] (.str ⟨(Lib.decDigits n).toArray⟩) := by
 refine kE Tryz.func70 a_ref04_Digits_ok a_ref04_Digits_cb fun E hE => ?_
 refine kW ?_
 refine AK.loopI (fun i : Nat × List UInt8 => (frOf [(0, .int .i64 i.1), (3, .str ⟨i.2.toArray⟩), (4, .bool false)], ⟨boxOf [], fun _ => 0⟩)) (fun i => i.1 ≤ 9223372036854775807 ∧ i.2.length ≤ 100 - (Lib.decDigits i.1).length ∧ (Lib.decDigits i.1).length ≤ 20 ∧ Lib.decDigits n = Lib.decDigits i.1 ++ i.2) (fun i => i.1) (n, []) ⟨hn, by simp, decD_len 19 n (by omega), by simp⟩ (Weak.intro ⟨kI, kI, ⟨_, rfl, .of_eq (congrArg AV.bool (by simp))⟩, trivial⟩ trivial rfl rfl) fun ⟨m, s⟩ ⟨hm, hsl, hdl, hd⟩ => ?_
 dsimp only at hm hsl hdl hd
 have t1 : ((m : Int)).tmod 10 = ((m % 10 : Nat) : Int) := rfl
 have t2 : ((m : Int)).tdiv 10 = ((m / 10 : Nat) : Int) := rfl
 have hk : m % 10 < 10 := Nat.mod_lt _ (by omega)
 have w1 : IntKind.i64.wrap (48 + ((m % 10 : Nat) : Int)) = ((48 + m % 10 : Nat) : Int) := by rw [wrap_in (by omega) (by omega)]; omega
 have w2 : IntKind.u8.wrap ((48 + m % 10 : Nat) : Int) = ((48 + m % 10 : Nat) : Int) := IntWalk.u8_in _ (by omega)
 have w3 : IntKind.i64.wrap ((m / 10 : Nat) : Int) = ((m / 10 : Nat) : Int) := wrap_in (by omega) (by omega)
 refine kW ?_
 refine kQ [] ?_
 rw [t1]
 refine kW ?_
 refine kC (fun hb => ?_) fun hb => ?_
 ·exact absurd hb (by simp; omega)
 refine kW ?_
 refine kP [] ?_ ?_
 ·((repeat' apply And.intro) <;> first | exact kD | (intro hgd; refine ⟨?_, kG⟩; (repeat' apply And.intro) <;> first | exact kD | skip) | skip)
  ·rw [w1, w2]; omega
  ·rw [w1, w2]; omega
  ·show ((1 + s.toArray.size : Nat) : Int) ≤ _
   rw [List.size_toArray]
   omega
 rw [w1, w2]
 have hcons : (ByteArray.mk #[((48 + m % 10 : Nat) : Int).toNat.toUInt8] ++ ByteArray.mk s.toArray) = ⟨(UInt8.ofNat (48 + m % 10) :: s).toArray⟩ := cons_ba _ _
 refine kW ?_
 refine kQ [] ?_
 rw [t2, w3]
 refine kW ?_
 refine kC (fun hb => ?_) fun hb => ?_
 ·have h0 : m / 10 = 0 := by have h : ((m / 10 : Nat) : Int) = 0 := by simpa using hb
                             omega
  have hm10 : m < 10 := by omega
  have hdm : Lib.decDigits m = [UInt8.ofNat (48 + m)] := by rw [decD_eq, if_pos hm10]
  rw [hdm] at hd
  have hmm : m % 10 = m := Nat.mod_eq_of_lt hm10
  refine AK.exit rfl ?_
  refine kW ?_
  refine kC (fun hb => ?_) fun hb => ?_
  ·cases hb
  refine kW ?_
  refine AK.ret ⟨_, rfl, ?_⟩
  refine congrArg AV.str (Eq.trans hcons ?_)
  rw [hmm, hd]
  rfl
 ·have h0 : ¬ m / 10 = 0 := by have h : ¬ ((m / 10 : Nat) : Int) = 0 := by simpa using hb
                               omega
  have hm10 : ¬ m < 10 := by omega
  have hdm : Lib.decDigits m = Lib.decDigits (m / 10) ++ [UInt8.ofNat (48 + m % 10)] := by rw [decD_eq, if_neg hm10]
  have hlm := congrArg List.length hdm
  rw [List.length_append, List.length_singleton] at hlm
  refine kW ?_
  exact AK.lp ⟨(m / 10, UInt8.ofNat (48 + m % 10) :: s), ⟨by dsimp only; omega, by dsimp only; rw [List.length_cons]; omega, by dsimp only; omega, by dsimp only; rw [hd, hdm, List.append_assoc]; rfl⟩, Weak.intro ⟨kI, ⟨_, rfl, .of_eq (congrArg AV.str hcons)⟩, kI, trivial⟩ trivial rfl rfl, by dsimp only; omega⟩
end Go.Proofs.YtbfiopoefbbknaaGreatDoor
/-
 A value put at a path, a path cut off: plain laws.
-/
namespace Go.Proofs.YtbfiopoefbbknaaGreatDoor
open Go.RowKit
end Go.Proofs.YtbfiopoefbbknaaGreatDoor
/-
 Reading plain lines and plain words: laws, no program in sight.
-/
namespace Go.Proofs.YtbfiopoefbbknaaGreatDoor
open Go.RowKit
theorem ix_append {l r : List UInt8} {c : UInt8} (h : c ∉ l) : Lib.indexByte (l ++ c :: r) c = l.length := by
 induction l with
 | nil => simp [Lib.indexByte]
 | cons a l ih =>
  simp only [List.mem_cons, not_or] at h
  have := ih h.2
  rw [List.cons_append, Lib.indexByte, if_neg (by simpa using Ne.symm h.1), this, if_neg (by simp)]
  simp
theorem ix_none {l : List UInt8} {c : UInt8} (h : c ∉ l) : Lib.indexByte l c = -1 := by
 rcases ix_cases l c with ⟨h1, _⟩ | ⟨i, _, _, h3, _⟩
 ·exact h1
 ·exact absurd (List.mem_of_getElem? h3) h
def joinC (c : UInt8) : List Bs → Bs
 | [] => []
 | x :: l => x ++ l.flatMap fun t => c :: t
theorem joinC_cons (c : UInt8) (t u : Bs) (l : List Bs) : joinC c (t :: u :: l) = t ++ c :: joinC c (u :: l) := by
 rw [joinC, joinC, List.flatMap_cons]; rfl
theorem splB_join (c : UInt8) : ∀ (l : List Bs) (s : ByteArray), l ≠ [] → (∀ t ∈ l, c ∉ t) → s.data.toList = joinC c l → Lib.countB s ⟨#[c]⟩ + 1 = l.length ∧ (Lib.splitB ⟨#[c]⟩ 0 (l.length - 1) s).map (fun x => x.data.toList) = l
 | [], _, h, _, _ => absurd rfl h
 | [t], s, _, hw, hs => by
  have hs' : s.data.toList = t := by rw [hs]; simp [joinC]
  have hi : Lib.indexB s ⟨#[c]⟩ = -1 := by
   show Lib.index s.data.toList [c] = -1
   rw [Lib.index_one, ix_none (by rw [hs']; exact hw t (by simp))]
  exact ⟨by rw [Lib.countB_miss _ _ hi]; rfl, by show [s.data.toList] = _; rw [hs']⟩
 | t :: u :: l, s, _, hw, hs => by
  rw [joinC_cons] at hs
  have ht := hw t (by simp)
  have hi : Lib.indexB s ⟨#[c]⟩ = (t.length : Nat) := by
   show Lib.index s.data.toList [c] = _
   rw [Lib.index_one, hs, ix_append ht]
  have hx : (s.extract (t.length + (ByteArray.mk #[c]).size) s.size).data.toList = joinC c (u :: l) := by
   rw [ext_end]
   show s.data.toList.drop (t.length + 1) = _
   have e : t ++ c :: joinC c (u :: l) = (t ++ [c]) ++ joinC c (u :: l) := by simp
   rw [hs, e, List.drop_append_of_le_length (by simp), List.drop_of_length_le (by simp)]
   rfl
  have h0 : (s.extract 0 (t.length + 0)).data.toList = t := by
   rw [Lib.extract_eq]
   show ((s.data.toList.drop 0).take _) = _
   rw [hs]
   simp
  obtain ⟨c1, c2⟩ := splB_join c (u :: l) (s.extract (t.length + (ByteArray.mk #[c]).size) s.size) (by simp) (fun x hx => hw x (by simp [List.mem_cons.1 hx])) hx
  refine ⟨?_, ?_⟩
  ·rw [Lib.countB_hit _ _ _ (show 1 ≤ (ByteArray.mk #[c]).size from Nat.le_refl 1) hi]
   simp only [List.length_cons] at c1 ⊢
   omega
  ·simp only [List.length_cons, Nat.add_sub_cancel] at c2 ⊢
   rw [Lib.splitB_hit _ _ _ _ _ hi, List.map_cons, h0, c2]
theorem splT_join {c : UInt8} {l : List Bs} {s : ByteArray} (hne : l ≠ []) (hw : ∀ t ∈ l, c ∉ t) (hs : s.data.toList = joinC c l) : (splT c s).map (fun x => x.data.toList) = l := by
 obtain ⟨c1, c2⟩ := splB_join c l s hne hw hs
 rw [splT, show Lib.countB s ⟨#[c]⟩ = l.length - 1 by omega, c2]
end Go.Proofs.YtbfiopoefbbknaaGreatDoor
/-
 The document's example of layer 5, walked; YamlWrong, walked.
-/
namespace Go.Proofs.YtbfiopoefbbknaaGreatDoor
open Go.RowKit
end Go.Proofs.YtbfiopoefbbknaaGreatDoor
