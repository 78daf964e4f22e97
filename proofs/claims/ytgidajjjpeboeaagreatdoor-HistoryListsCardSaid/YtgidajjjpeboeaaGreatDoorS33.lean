/-
  The texts that the claim wants, one behind the other: part 33.
-/
import Derived.Test.YtgidajjjpeboeaaGreatDoorS32
import Derived.Lib.AppendIntMem
import Derived.Lib.UnsafeStr
import Derived.Test.YtgidajjjpeboeaaGreatDoorChecked
import Derived.KernelRfl
import Derived.Lib.Strings
import Derived.BigQuiet
set_option linter.unusedSimpArgs false
set_option linter.unusedVariables false
namespace Go.Proofs.YtgidajjjpeboeaaGreatDoor
open Go.RowKit
def nameB (s : ByteArray) : Bool := noSl s && (bareB s && decide (s.size ≤ 48))
theorem refName_a (s : ByteArray) (hs : s.size ≤ 140737488355328) : AC Tryz.prog 60 [.str s] (.bool (nameB s)) := by
 have hB := refBare_a s hs
 refine kE Tryz.func60 a_ref17_Name_ok a_ref17_Name_cb fun E hE => ?_
 refine kW ?_
 refine AK.loopI (fun k : Nat => (frOf [(0, .str s), (3, .int .i64 k)], ⟨boxOf [], fun _ => 0⟩)) (fun k => k ≤ s.size ∧ ∀ j, (h : j < s.size) → j < k → s[j].toNat ≠ 47) (fun k => s.size - k) 0 ⟨by omega, fun j h h2 => by omega⟩ (Weak.intro ⟨kI, kI, trivial⟩ trivial rfl rfl) fun k ⟨hk, hno⟩ => ?_
 refine kW ?_
 refine kC (fun hb => ?_) fun hb => ?_
 ·have hlt : k < s.size := by simpa using hb
  refine kW ?_
  refine kQ [] ?_
  rw [show s.data.getD (k : Int).toNat 0 = s[k] from byte_at hlt]
  refine kC (fun hb => ?_) fun hb => ?_
  ·have hf : s[k].toNat = 47 := by have h : ((s[k].toNat : Nat) : Int) = 47 := by simpa using hb
                                   omega
   refine kW ?_
   refine AK.ret ⟨_, rfl, ?_⟩
   rw [nameB, noSl_no hlt hf]
   rfl
  ·have hf : s[k].toNat ≠ 47 := by have h : ¬ ((s[k].toNat : Nat) : Int) = 47 := by simpa using hb
                                   omega
   refine kW ?_
   exact AK.lp ⟨k + 1, ⟨by omega, fun j h h2 => by
    by_cases e : j = k
    ·subst e; exact hf
    ·exact hno j h (by omega)⟩, Weak.intro ⟨kI, kU, trivial⟩ trivial rfl rfl, by omega⟩
 ·have hlt : s.size ≤ k := by simpa using hb
  have hall : noSl s = true := decide_eq_true fun j h => hno j h (by omega)
  refine AK.exit rfl ?_
  refine kW ?_
  refine kQ [.v (.bool (bareB s))] ?_
  refine kW ?_
  refine AK.ret ⟨_, rfl, ?_⟩
  refine congrArg AV.bool ?_
  rw [nameB, hall]
  cases bareB s <;> simp <;> omega
theorem recName_a (s : ByteArray) (hs : s.size ≤ 140737488355328) : AC Tryz.prog 57 [.str s] (.bool (nameB s)) := by
 have h1 := bare_a s hs
 have h2 := contains47_a s
 refine kE Tryz.func57 a_record_Name_ok a_record_Name_cb fun E hE => ?_
 refine kW ?_
 refine kQ [.v (.bool (bareB s)), .v (.bool (!noSl s))] ?_
 refine kW ?_
 refine AK.ret ⟨_, rfl, ?_⟩
 refine congrArg AV.bool ?_
 rw [nameB]
 cases bareB s <;> cases noSl s <;> simp <;> omega
theorem tab_of {w : World} (h : GW w) : Lib.TabIs Tryz.prog w "internal/strconv.uint64pow10" .u64 Lib.pow10Tab := by
 obtain ⟨ty, fr, h1⟩ := h.cells (gi_uint64pow10, gv_uint64pow10) (by simp [globL])
 unfold Lib.TabIs World.var?
 rw [show Tryz.prog.globalNamed "internal/strconv.uint64pow10" = some gi_uint64pow10 by kernel_rfl, Option.bind_some, h1]
 show some gv_uint64pow10.toArray = _
 congr 1
theorem itoa_a (n : Nat) (hn : n ≤ 9223372036854775807) : AC Tryz.prog 97 [.int .i64 n] (.str ⟨(Lib.decDigits n).toArray⟩) := by
 refine ⟨by kernel_rfl, fun σ w vs hh hr hg => ?_⟩
 have hl : vs.length = 1 := hr.1
 obtain ⟨v1, rfl⟩ := List.length_eq_one_iff.1 hl
 have h1 : Rel1 σ v1 (.int .i64 n) := hr.2 0 v1 _ rfl rfl
 cases h1
 refine (Tryz.strconv_Itoa n (by omega) (by omega) w (tab_of hg)).mono ?_
 rintro e w' ⟨rfl, k, os, rfl⟩
 rw [Lib.itoa_nonneg]
 have hb := Lib.below_grow w.heap.size w (Nat.le_refl _) k os
 exact ⟨σ, _, rfl, Ext.refl _ _, hh.on hb, hb, .str _⟩
def idB (a : ByteArray) (n : Nat) : ByteArray := a ++ ⟨#[46, 118]⟩ ++ ⟨(Lib.decDigits n).toArray⟩
def hidB : ByteArray := ⟨#[82, 101, 108, 101, 97, 115, 101]⟩
def defB : ByteArray := ⟨#[100, 101, 102, 97, 117, 108, 116]⟩
theorem id_a (a : ByteArray) (n : Nat) (ha : a.size ≤ 140737488355328) (hn : n ≤ 1000000) : AC Tryz.prog 58 [.str a, .int .i64 n] (.agg [.str hidB, .str defB, .str (idB a n)]) := by
 have h1 := itoa_a n (by omega)
 have hd := dec_len 6 n (by omega)
 have hz : (ByteArray.mk (Lib.decDigits n).toArray).size = (Lib.decDigits n).length := by simp [ByteArray.size]
 have h2 : (a ++ ByteArray.mk #[46, 118]).size = a.size + 2 := by rw [ByteArray.size_append]; rfl
 refine kE Tryz.func58 a_record_ID_ok a_record_ID_cb fun E hE => ?_
 refine kW ?_
 refine kP [.v (.str ⟨(Lib.decDigits n).toArray⟩)] ?_ ?_
 ·((repeat' apply And.intro) <;> first | exact kD | (intro hgd; refine ⟨?_, kG⟩; (repeat' apply And.intro) <;> first | exact kD | skip) | skip)
  all_goals (first | (show ((a.size + 2 : Nat) : Int) ≤ _; omega) | omega)
 refine kW ?_
 refine AK.ret ⟨_, rfl, ?_⟩
 rfl
theorem heldID : Tryz.prog.stoodInHeld 24 = false := by kernel_rfl
theorem guardID : Tryz.prog.eqGuardType Tryz.prog.depth 24 = false := by kernel_rfl
theorem tl_iff (a b : ByteArray) : a.toList = b.toList ↔ a = b := ⟨LastIndex.eq_of_toList, fun h => by rw [h]⟩
theorem eqID_any (neg : Bool) (a b c d e f : ByteArray) : EqRun Tryz.prog neg 24 [.string a, .string b, .string c] [.string d, .string e, .string f] (eqCells [.str a, .str b, .str c] [.str d, .str e, .str f]) := by
 intro w x y
 cases neg
 ·constructor
  ·simp [go_sem, eqGuard, eqOp, guardID]
  ·simp [go_sem, eqOp, heldID, eqCells, tl_iff]
   by_cases h1 : a = d <;> by_cases h2 : b = e <;> by_cases h3 : c = f <;> simp [h1, h2, h3]
 ·constructor
  ·simp [go_sem, eqGuard, eqOp, guardID]
  ·simp [go_sem, eqOp, heldID, eqCells, tl_iff]
   by_cases h1 : a = d <;> by_cases h2 : b = e <;> by_cases h3 : c = f <;> simp [h1, h2, h3]
theorem nilErO (neg : Bool) : NilRun Tryz.prog neg 107 .nilIface .nilIface true := by
 intro w x y hk
 have hg : (eqGuard (eqOp neg) 107 x y .nilIface .nilIface).run Tryz.prog w = .ok () w := by
  cases x <;> cases y <;> first | (cases hk; done) | (cases neg <;> simp [go_sem, eqGuard, eqOp])
 cases neg
 ·exact ⟨hg, by simp [go_sem, eqOp]⟩
 ·exact ⟨hg, by simp [go_sem, eqOp]⟩
theorem below_bytes (w : World) (e : TypeId) (s : ByteArray) : Below w.heap.size w (Lib.bytesWorld w e s) := by
 unfold Lib.bytesWorld
 exact Lib.below_freeze (((Below.refl _ _).drew).alloc (Nat.le_refl _) _) (Nat.le_refl _) _
theorem atoi_a (n : Nat) (hn : n ≤ 1000000) : AC Tryz.prog 56 [.str ⟨(Lib.decDigits n).toArray⟩] (.tup [.int .i64 n, .raw .nilIface]) := by
 refine ⟨by kernel_rfl, fun σ w vs hh hr hg => ?_⟩
 have hl : vs.length = 1 := hr.1
 obtain ⟨v1, rfl⟩ := List.length_eq_one_iff.1 hl
 have h1 : Rel1 σ v1 (.str ⟨(Lib.decDigits n).toArray⟩) := hr.2 0 v1 _ rfl rfl
 cases h1
 have hd := dec_len 6 n (by omega)
 refine (Tryz.strconv_Atoi ⟨(Lib.decDigits n).toArray⟩ n (by show (Lib.decDigits n).toArray.size ≤ 18; simp; omega) (by rw [List.toList_toArray]; exact atoi_dec n) w).mono ?_
 rintro e w' ⟨rfl, t, rfl⟩
 have hb := below_bytes w 5 t
 refine ⟨σ, _, rfl, Ext.refl _ _, hh.on hb, hb, ⟨[.int .i64 n, .nilIface], rfl, rfl, fun j v a hv ha => ?_⟩⟩
 rcases j with _ | _ | j <;> simp at hv ha
 ·subst hv ha; exact .int _ _
 ·subst hv ha; exact .raw _ rfl
theorem idB_list (a : ByteArray) (n : Nat) : (idB a n).data.toList = nameL a.data.toList n := by
 unfold idB nameL
 rw [ByteArray.data_append, ByteArray.data_append, Array.toList_append, Array.toList_append]
theorem idB_size (a : ByteArray) (n : Nat) : (idB a n).size = a.size + 2 + (Lib.decDigits n).length := by
 unfold idB
 rw [ByteArray.size_append, ByteArray.size_append]
 show a.size + 2 + (Lib.decDigits n).toArray.size = _
 simp
theorem last_a (a : ByteArray) (n : Nat) (ha : a.size ≤ 140737488355328) (hn : n ≤ 1000000) : AC Tryz.prog 55 [.str (idB a n), .str ⟨#[46, 118]⟩] (.int .i64 a.size) := by
 refine ⟨by kernel_rfl, fun σ w vs hh hr hg => ?_⟩
 have hl : vs.length = 2 := hr.1
 obtain ⟨v1, v2, rfl⟩ : ∃ a b, vs = [a, b] := by
  rcases vs with _ | ⟨a, _ | ⟨b, _ | ⟨d, l⟩⟩⟩ <;> simp at hl
  exact ⟨a, b, rfl⟩
 have h1 : Rel1 σ v1 (.str (idB a n)) := hr.2 0 v1 _ rfl rfl
 have h2 : Rel1 σ v2 (.str ⟨#[46, 118]⟩) := hr.2 1 v2 _ rfl rfl
 cases h1; cases h2
 have hd := dec_len 6 n (by omega)
 have hz := idB_size a n
 refine (Tryz.strings_LastIndex (idB a n) ⟨#[46, 118]⟩ (by omega) w).mono ?_
 rintro e w' ⟨rfl, rfl⟩
 rw [idB_list, show (ByteArray.mk #[46, 118]).data.toList = [46, 118] from rfl, nameL_last, show a.data.toList.length = a.size by simp]
 exact ⟨σ, _, rfl, Ext.refl _ _, hh, Below.refl _ _, .int _ _⟩
theorem idB_front (a : ByteArray) (n : Nat) : (idB a n).extract 0 a.size = a := by
 rw [Lib.extract_eq, idB_list]
 cases a with
 | mk d =>
  congr 1
  refine Array.toList_inj.1 ?_
  simp [nameL, ByteArray.size]
theorem idB_back (a : ByteArray) (n : Nat) : (idB a n).extract (a.size + 2) (idB a n).size = ⟨(Lib.decDigits n).toArray⟩ := by
 rw [Lib.extract_eq, idB_list]
 congr 1
 refine Array.toList_inj.1 ?_
 have e : nameL a.data.toList n = (a.data.toList ++ [46, 118]) ++ Lib.decDigits n := rfl
 have e2 : (a.data.toList ++ [46, 118]).length = a.size + 2 := by simp
 rw [e, ← e2, List.drop_left, idB_size]
 simp
theorem eqCells_same3 (a b c : ByteArray) : eqCells [.str a, .str b, .str c] [.str a, .str b, .str c] = true := by simp [eqCells]
theorem owner_a (a : ByteArray) (n : Nat) (ha : nameB a = true) (h1 : 1 ≤ n) (hn : n ≤ 1000000) : AC Tryz.prog 21 [.agg [.str hidB, .str defB, .str (idB a n)]] (.tup [.str a, .int .i64 n, .bool true]) := by
 have hz : a.size ≤ 48 := by
  simp only [nameB, Bool.and_eq_true, decide_eq_true_eq] at ha
  exact ha.2.2
 have hL := last_a a n (by omega) hn
 have hA := atoi_a n hn
 have hN := recName_a a (by omega)
 have hI := id_a a n (by omega) hn
 rw [ha] at hN
 have hs := idB_size a n
 have hf := idB_front a n
 have hb2 := idB_back a n
 refine kE Tryz.func21 a_record_Owner_ok a_record_Owner_cb fun E hE => ?_
 refine kW ?_
 refine kQ [.v (.int .i64 a.size)] ?_
 refine kW ?_
 refine kC (fun hb => ?_) fun hb => ?_
 ·exact absurd hb (by simp)
 have hw : IntKind.i64.wrap ((a.size : Int) + 2) = ((a.size + 2 : Nat) : Int) := by rw [wrap_in (by omega) (by omega)]; omega
 refine kW ?_
 refine kP [.v (.tup [.int .i64 n, .raw .nilIface])] ?_ ?_
 ·((repeat' apply And.intro) <;> first | exact kD | (intro hgd; refine ⟨?_, kG⟩; (repeat' apply And.intro) <;> first | exact kD | skip) | skip)
  rw [show (idB a n).extract (IntKind.i64.wrap ((a.size : Int) + 2)).toNat ((idB a n).size : Int).toNat = ⟨(Lib.decDigits n).toArray⟩ by rw [hw, Int.toNat_natCast, Int.toNat_natCast]; exact hb2]
  exact hA
 refine kW ?_
 refine kQ [] ?_
 rw [show (idB a n).extract (0 : Int).toNat (a.size : Int).toNat = a by rw [Int.toNat_natCast]; exact hf]
 refine kW ?_
 refine kP [.v (.bool true), .v (.agg [.str hidB, .str defB, .str (idB a n)])] ?_ ?_
 ·((repeat' apply And.intro) <;> first | exact kD | (intro hgd; refine ⟨?_, kG⟩; (repeat' apply And.intro) <;> first | exact kD | skip) | skip)
  ·exact nilErO true
  ·exact eqID_any true _ _ _ _ _ _
 rw [eqCells_same3]
 refine kC (fun hb => ?_) fun hb => ?_
 ·exact absurd hb (by simp; omega)
 refine kW ?_
 refine AK.ret ⟨_, rfl, ?_⟩
 rfl
end Go.Proofs.YtgidajjjpeboeaaGreatDoor
namespace Go.Proofs.YtgidajjjpeboeaaGreatDoor
set_option maxRecDepth 100000
def b_ref01_Text : ACode :=
 .seq (gQ [⟨gO, .mov 2 (.k (.bool false))⟩]) (.seq (.seq (gQ [gJ 3 0]) (.block 0 (.loop (.seq (.seq (gQ [gM 4 3, gM 5 0, gH 6 true 5, gV 7 .lss 4 6]) (.cond (.s 7) .skip (.exit 0))) (.seq (.block 1 (.seq (gQ [gM 10 0, gM 11 3, ⟨gO, .bidx 12 (.s 10) (.s 11)⟩, ⟨gO, gB 13 .lss (.s 12) (.k (.int .u8 32))⟩, gM 14 13, gN 14 false 15 0, gN 14 false 16 3, ⟨some (14, false), .bidx 17 (.s 15) (.s 16)⟩, ⟨some (14, false), .bin 18 .gtr false (.s 17) (.k (.int .u8 126))⟩, ⟨gO, .pick 19 (.s 14) (.k (.bool true)) (.s 18)⟩, gM 20 19, gN 20 true 21 0, gN 20 true 22 3, ⟨some (20, true), .bidx 23 (.s 21) (.s 22)⟩, ⟨some (20, true), .bin 24 .neq false (.s 23) (.k (.int .u8 9))⟩, ⟨gO, .pick 25 (.s 20) (.s 24) (.k (.bool false))⟩, gM 26 25, gN 26 true 27 0, gN 26 true 28 3, ⟨some (26, true), .bidx 29 (.s 27) (.s 28)⟩, ⟨some (26, true), .bin 30 .neq false (.s 29) (.k (.int .u8 10))⟩, ⟨gO, .pick 31 (.s 26) (.s 30) (.k (.bool false))⟩]) (.cond (.s 31) (.seq (gQ [⟨gO, .mov 2 (.k (.bool false))⟩]) .ret) .skip))) (.reg [gM 8 3, gU 9 .add 8 1, gM 3 9])))))) (.seq (gQ [gM 32 0, gH 33 true 32, gU 34 .leq 33 65536, gM 2 34]) .ret))
def a_ref01_Text : AFn := ⟨1, 35, b_ref01_Text, [.tmp 2]⟩
theorem a_ref01_Text_ok : fnAF Tryz.prog [] Tryz.f159 = some a_ref01_Text := by kernel_rfl
theorem a_ref01_Text_cb : callable Tryz.prog 159 = true := by kernel_rfl
def b_ref01_Same : ACode :=
 .seq (gQ [gP 2 0, gP 3 1, ⟨gO, .mov 4 (.k (.bool false))⟩]) (.seq (.seq (gQ [gF 7 0 2, gL 8 7, gF 9 0 3, gL 10 9, gV 11 .neq 8 10, gM 12 11, ⟨some (12, false), .off 13 1 (.s 2)⟩, ⟨some (12, false), .ld 14 1 false (.s 13)⟩, ⟨some (12, false), .off 15 1 (.s 3)⟩, ⟨some (12, false), .ld 16 1 false (.s 15)⟩, ⟨some (12, false), .bin 17 .neq true (.s 14) (.s 16)⟩, ⟨gO, .pick 18 (.s 12) (.k (.bool true)) (.s 17)⟩, gM 19 18, ⟨some (19, false), .off 20 2 (.s 2)⟩, ⟨some (19, false), .ld 21 1 false (.s 20)⟩, ⟨some (19, false), .off 22 2 (.s 3)⟩, ⟨some (19, false), .ld 23 1 false (.s 22)⟩, ⟨some (19, false), .bin 24 .neq false (.s 21) (.s 23)⟩, ⟨gO, .pick 25 (.s 19) (.k (.bool true)) (.s 24)⟩, gM 26 25, ⟨some (26, false), .off 27 3 (.s 2)⟩, ⟨some (26, false), .ld 28 1 false (.s 27)⟩, ⟨some (26, false), .off 29 3 (.s 3)⟩, ⟨some (26, false), .ld 30 1 false (.s 29)⟩, ⟨some (26, false), .bin 31 .neq false (.s 28) (.s 30)⟩, ⟨gO, .pick 32 (.s 26) (.k (.bool true)) (.s 31)⟩, gM 33 32, ⟨some (33, false), .off 34 4 (.s 2)⟩, ⟨some (33, false), .ld 35 1 false (.s 34)⟩, ⟨some (33, false), .len 36 false (.s 35)⟩, ⟨some (33, false), .off 37 4 (.s 3)⟩, ⟨some (33, false), .ld 38 1 false (.s 37)⟩, ⟨some (33, false), .len 39 false (.s 38)⟩, ⟨some (33, false), .bin 40 .neq false (.s 36) (.s 39)⟩, ⟨gO, .pick 41 (.s 33) (.k (.bool true)) (.s 40)⟩, gM 42 41, ⟨some (42, false), .off 43 5 (.s 2)⟩, ⟨some (42, false), .ld 44 1 false (.s 43)⟩, ⟨some (42, false), .len 45 false (.s 44)⟩, ⟨some (42, false), .off 46 5 (.s 3)⟩, ⟨some (42, false), .ld 47 1 false (.s 46)⟩, ⟨some (42, false), .len 48 false (.s 47)⟩, ⟨some (42, false), .bin 49 .neq false (.s 45) (.s 48)⟩, ⟨gO, .pick 50 (.s 42) (.k (.bool true)) (.s 49)⟩]) (.cond (.s 50) (.seq (gQ [⟨gO, .mov 4 (.k (.bool false))⟩]) .ret) .skip)) (.seq (.seq (gQ [gJ 5 0]) (.block 0 (.loop (.seq (.seq (gQ [gM 51 5, gF 52 4 2, gL 53 52, gH 54 false 53, gV 55 .lss 51 54]) (.cond (.s 55) .skip (.exit 0))) (.seq (.block 1 (.seq (gQ [gF 58 4 2, gL 59 58, gM 60 5, gE 61 6 59 60, gA 62 6 61, gF 63 4 3, gL 64 63, gM 65 5, gE 66 6 64 65, gA 67 6 66, gC 68 35 [.s 62, .s 67], ⟨gO, .un 69 .not (.s 68)⟩]) (.cond (.s 69) (.seq (gQ [⟨gO, .mov 4 (.k (.bool false))⟩]) .ret) .skip))) (.reg [gM 56 5, gU 57 .add 56 1, gM 5 57])))))) (.seq (.seq (gQ [gJ 6 0]) (.block 2 (.loop (.seq (.seq (gQ [gM 70 6, gF 71 5 2, gL 72 71, gH 73 false 72, gV 74 .lss 70 73]) (.cond (.s 74) .skip (.exit 2))) (.seq (.block 3 (.seq (gQ [gF 77 5 2, gL 78 77, gM 79 6, gE 80 7 78 79, gF 81 0 80, gL 82 81, gF 83 5 3, gL 84 83, gM 85 6, gE 86 7 84 85, gF 87 0 86, gL 88 87, gV 89 .neq 82 88, gM 90 89, ⟨some (90, false), .off 91 5 (.s 2)⟩, ⟨some (90, false), .ld 92 1 false (.s 91)⟩, gN 90 false 93 6, ⟨some (90, false), .idx 94 7 (.s 92) (.s 93)⟩, ⟨some (90, false), .off 95 1 (.s 94)⟩, ⟨some (90, false), .ld 96 6 true (.s 95)⟩, ⟨some (90, false), .off 97 5 (.s 3)⟩, ⟨some (90, false), .ld 98 1 false (.s 97)⟩, gN 90 false 99 6, ⟨some (90, false), .idx 100 7 (.s 98) (.s 99)⟩, ⟨some (90, false), .off 101 1 (.s 100)⟩, ⟨some (90, false), .ld 102 6 true (.s 101)⟩, ⟨some (90, false), .call (some 103) (.k (.fn 35 [])) [.s 96, .s 102]⟩, ⟨some (90, false), .un 104 .not (.s 103)⟩, ⟨gO, .pick 105 (.s 90) (.k (.bool true)) (.s 104)⟩]) (.cond (.s 105) (.seq (gQ [⟨gO, .mov 4 (.k (.bool false))⟩]) .ret) .skip))) (.reg [gM 75 6, gU 76 .add 75 1, gM 6 76])))))) (.seq (gQ [⟨gO, .mov 4 (.k (.bool true))⟩]) .ret))))
def a_ref01_Same : AFn := ⟨2, 106, b_ref01_Same, [.tmp 4]⟩
theorem a_ref01_Same_ok : fnAF Tryz.prog [] Tryz.f35 = some a_ref01_Same := by kernel_rfl
theorem a_ref01_Same_cb : callable Tryz.prog 35 = true := by kernel_rfl
def b_law01_weight : ACode :=
 .seq (gQ [gP 2 0, gJ 4 0]) (.seq (gQ [gF 10 3 2, gL 11 10, gH 12 true 11, ⟨gO, gB 13 .add (gI 1) (.s 12)⟩, gM 5 13]) (.seq (.seq (gQ [gM 14 1, gU 15 .gtr 14 40]) (.cond (.s 15) (.seq (gQ [gJ 4 1048576]) .ret) .skip)) (.seq (.seq (gQ [gF 16 4 2, gL 17 16, gH 18 false 17, gJ 19 0]) (.block 0 (.loop (.seq (gQ [gV 20 .lss 19 18]) (.seq (.cond (.s 20) .skip (.exit 0)) (.seq (.block 1 (.seq (gQ [gE 21 6 17 19, gA 22 6 21, ⟨gO, .alloc 7 gZ⟩, gT 6 7 22]) (.seq (gQ [gM 23 5, gA 24 6 7, gM 25 1, gU 26 .add 25 1, gC 27 26 [.s 24, .s 26], gV 28 .add 23 27, gM 5 28]) (.seq (gQ [gM 29 5, gU 30 .gtr 29 6000]) (.cond (.s 30) (.seq (gQ [gM 31 5, gM 4 31]) .ret) .skip))))) (.reg [gU 32 .add 19 1, gM 19 32]))))))) (.seq (.seq (gQ [gF 33 5 2, gL 34 33, gH 35 false 34, gJ 36 0]) (.block 2 (.loop (.seq (gQ [gV 37 .lss 36 35]) (.seq (.cond (.s 37) .skip (.exit 2)) (.seq (.block 3 (.seq (gQ [gE 38 7 34 36, gA 39 7 38, ⟨gO, .alloc 9 [.str ⟨#[]⟩, .int .i64 0, .bool false, .int .i64 0, .str ⟨#[]⟩, .lst .nil 6 [], .lst .nil 7 []]⟩, gT 7 9 39]) (.seq (gQ [gM 40 5, gF 41 1 9, gA 42 6 41, gM 43 1, gU 44 .add 43 1, gC 45 26 [.s 42, .s 44], gF 46 0 9, gL 47 46, gH 48 true 47, gV 49 .add 45 48, gV 50 .add 40 49, gM 5 50]) (.seq (gQ [gM 51 5, gU 52 .gtr 51 6000]) (.cond (.s 52) (.seq (gQ [gM 53 5, gM 4 53]) .ret) .skip))))) (.reg [gU 54 .add 36 1, gM 36 54]))))))) (.seq (gQ [gM 55 5, gM 4 55]) .ret)))))
def a_law01_weight : AFn := ⟨2, 56, b_law01_weight, [.tmp 4]⟩
theorem a_law01_weight_ok : fnAF Tryz.prog [] Tryz.f26 = some a_law01_weight := by kernel_rfl
theorem a_law01_weight_cb : callable Tryz.prog 26 = true := by kernel_rfl
def b_law01_Light : ACode :=
 .seq (gQ [gP 1 0, ⟨gO, .mov 2 (.k (.bool false))⟩]) (.seq (gQ [gA 3 6 1, gC 4 26 [.s 3, gI 0], gU 5 .leq 4 6000, gM 2 5]) .ret)
def a_law01_Light : AFn := ⟨1, 6, b_law01_Light, [.tmp 2]⟩
theorem a_law01_Light_ok : fnAF Tryz.prog [] Tryz.f6 = some a_law01_Light := by kernel_rfl
theorem a_law01_Light_cb : callable Tryz.prog 6 = true := by kernel_rfl
end Go.Proofs.YtgidajjjpeboeaaGreatDoor
namespace Go.Proofs.YtgidajjjpeboeaaGreatDoor
open Go.RowKit
theorem refText_a (s : ByteArray) (hs : s.size ≤ 140737488355328) : AC Tryz.prog 159 [.str s] (.bool (textB s)) := by
 refine kE Tryz.func159 a_ref01_Text_ok a_ref01_Text_cb fun E hE => ?_
 refine kW ?_
 refine AK.loopI (fun k : Nat => (frOf [(0, .str s), (3, .int .i64 k)], ⟨boxOf [], fun _ => 0⟩)) (fun k => k ≤ s.size ∧ allTo okT s k) (fun k => s.size - k) 0 ⟨by omega, allTo_zero _ _⟩ (Weak.intro ⟨kI, kI, trivial⟩ trivial rfl rfl) fun k ⟨hk, hno⟩ => ?_
 refine kW ?_
 refine kC (fun hb => ?_) fun hb => ?_
 ·have hlt : k < s.size := by simpa using hb
  refine kW ?_
  refine kQ [] ?_
  rw [show s.data.getD (k : Int).toNat 0 = s[k] from byte_at hlt]
  refine kC (fun hb => ?_) fun hb => ?_
  ·refine kW ?_
   refine AK.ret ⟨_, rfl, ?_⟩
   have hf : okT s[k] = false := by
    simp only [Bool.or_eq_true, Bool.and_eq_true, Bool.not_eq_true', decide_eq_true_eq, decide_eq_false_iff_not] at hb
    simp only [okT, Bool.or_eq_false_iff, Bool.and_eq_false_iff, decide_eq_false_iff_not, beq_eq_false_iff_ne, ne_eq]
    omega
   rw [textB, allB_false hlt hf]
   rfl
  ·have ht : okT s[k] = true := by
    simp only [Bool.or_eq_false_iff, Bool.and_eq_false_iff, Bool.not_eq_false', decide_eq_true_eq, decide_eq_false_iff_not] at hb
    simp only [okT, Bool.or_eq_true, Bool.and_eq_true, decide_eq_true_eq, beq_iff_eq]
    omega
   refine kW ?_
   exact AK.lp ⟨k + 1, ⟨by omega, allTo_succ hno hlt ht⟩, Weak.intro ⟨kI, kU, trivial⟩ trivial rfl rfl, by omega⟩
 ·have hlt : k = s.size := by have : s.size ≤ k := by simpa using hb
                              omega
  subst hlt
  refine AK.exit rfl ?_
  refine kW ?_
  refine AK.ret ⟨_, rfl, ?_⟩
  show AV.bool _ = AV.bool _
  refine congrArg AV.bool ?_
  rw [textB, allB_true hno, Bool.eq_iff_iff]
  simp
  try omega
end Go.Proofs.YtgidajjjpeboeaaGreatDoor
/-
 The document's functions parts and Check, walked as instructions.
-/
namespace Go.Proofs.YtgidajjjpeboeaaGreatDoor
open Go.RowKit
theorem partsC_kind {v : V} (h : kbad v.kind v.b v.n v.s v.l.length v.m.length = true) : v.partsC = 8 := by rw [V.partsC_eq, if_pos h]
theorem partsC_text {v : V} (h : kbad v.kind v.b v.n v.s v.l.length v.m.length = false) (ht : textB v.s = false) : v.partsC = 10 := by rw [V.partsC_eq, if_neg (by simp [h]), if_pos ht]
theorem partsC_list {v : V} (h : kbad v.kind v.b v.n v.s v.l.length v.m.length = false) (ht : textB v.s = true) (hl : partsL v.l ≠ 0) : v.partsC = partsL v.l := by rw [V.partsC_eq, if_neg (by simp [h]), if_neg (by simp [ht]), if_pos hl]
theorem partsC_map {v : V} (h : kbad v.kind v.b v.n v.s v.l.length v.m.length = false) (ht : textB v.s = true) (hl : partsL v.l = 0) : v.partsC = partsM none v.m := by rw [V.partsC_eq, if_neg (by simp [h]), if_neg (by simp [ht]), if_neg (by simp [hl])]
theorem sz0 (s : ByteArray) : s = ByteArray.empty ↔ s.size = 0 := by
 refine ⟨fun h => by subst h; rfl, fun h => ?_⟩
 cases s with
 | mk a =>
  have : a = #[] := Array.eq_empty_of_size_eq_zero h
  subst this; rfl
theorem two_args {σ : Sg} {vs : List Value} {a b : AV} (hr : RelPs σ vs [a, b]) : ∃ x y, vs = [x, y] ∧ RelP σ x a ∧ RelP σ y b := by
 have hl : vs.length = 2 := hr.1
 obtain ⟨v1, v2, rfl⟩ : ∃ a b, vs = [a, b] := by
  rcases vs with _ | ⟨a, _ | ⟨b, _ | ⟨d, l⟩⟩⟩ <;> simp at hl
  exact ⟨a, b, rfl⟩
 exact ⟨v1, v2, rfl, hr.2 0 v1 _ rfl rfl, hr.2 1 v2 _ rfl rfl⟩
theorem ix_cases (l : List UInt8) (c : UInt8) : (Lib.indexByte l c = -1 ∧ c ∉ l) ∨ ∃ i : Nat, Lib.indexByte l c = i ∧ i < l.length ∧ l[i]? = some c ∧ c ∉ l.take i := by
 induction l with
 | nil => exact .inl ⟨rfl, by simp⟩
 | cons b l ih =>
  rw [Lib.indexByte]
  by_cases h : b = c
  ·subst h
   exact .inr ⟨0, by simp, by simp, rfl, by simp⟩
  ·rw [if_neg (by simpa using h)]
   rcases ih with ⟨h1, h2⟩ | ⟨i, h1, h2, h3, h4⟩
   ·exact .inl ⟨by rw [h1]; rfl, by simp [h2, Ne.symm h]⟩
   ·refine .inr ⟨i + 1, ?_, by simp; omega, by simpa using h3, by simp [h4, Ne.symm h]⟩
    rw [h1, if_neg (by simp)]
    simp
def V.str (s : ByteArray) : V := .mk 3 false 0 s [] []
def V.int (n : Int) : V := .mk 2 false n ⟨#[]⟩ [] []
theorem treeStr_a (s : ByteArray) : AC Tryz.prog 138 [.str s] ((vA ((V.str s)))) := by
 refine kE Tryz.func138 a_tree_Str_ok a_tree_Str_cb fun E hE => ?_
 refine kW ?_
 refine AK.ret ⟨_, rfl, ?_⟩
 rfl
theorem treeInt_a (n : Int) : AC Tryz.prog 139 [.int .i64 n] ((vA ((V.int n)))) := by
 refine kE Tryz.func139 a_tree_Int_ok a_tree_Int_cb fun E hE => ?_
 refine kW ?_
 refine AK.ret ⟨_, rfl, ?_⟩
 rfl
theorem nilErr (neg : Bool) : NilRun Tryz.prog neg 107 .nilIface .nilIface true := by
 intro w x y hk
 have hg : (eqGuard (eqOp neg) 107 x y .nilIface .nilIface).run Tryz.prog w = .ok () w := by
  cases x <;> cases y <;> first | (cases hk; done) | (cases neg <;> simp [go_sem, eqGuard, eqOp])
 cases neg
 ·exact ⟨hg, by simp [go_sem, eqOp]⟩
 ·exact ⟨hg, by simp [go_sem, eqOp]⟩
theorem contains1_a (s : ByteArray) (c : UInt8) : AC Tryz.prog 96 [.str s, .str ⟨#[c]⟩] (.bool (decide (c ∈ s.data.toList))) := by
 refine ⟨by kernel_rfl, fun σ w vs hh hr hg => ?_⟩
 obtain ⟨v1, v2, rfl, h1, h2⟩ := two_args hr
 have h1 : Rel1 σ v1 (.str s) := h1
 have h2 : Rel1 σ v2 (.str ⟨#[c]⟩) := h2
 cases h1; cases h2
 refine (Tryz.strings_Contains_one s c w).mono ?_
 rintro e w' ⟨rfl, rfl⟩
 have e : decide (0 ≤ Lib.indexByte s.data.toList c) = decide (c ∈ s.data.toList) := by
  rcases ix_cases s.data.toList c with ⟨h1, h2⟩ | ⟨i, h1, h2, h3, h4⟩
  ·rw [h1, decide_eq_false h2]; rfl
  ·rw [h1, decide_eq_true (show 0 ≤ (i : Int) by omega), decide_eq_true (List.mem_of_getElem? h3)]
 rw [e]
 exact ⟨σ, _, rfl, Ext.refl _ _, hh, Below.refl _ _, .bool _⟩
theorem key_eq (s : ByteArray) : keyB s = ((decide (1 ≤ s.size) && decide (s.size ≤ 256)) && textB s && !decide (10 ∈ s.data.toList) && !decide (9 ∈ s.data.toList)) := by
 rw [Bool.eq_iff_iff]
 simp only [keyB, textB, allB, Bool.and_eq_true, Bool.not_eq_true', decide_eq_true_eq, decide_eq_false_iff_not, List.all_eq_true]
 constructor
 ·rintro ⟨h1, h2, h3⟩
  refine ⟨⟨⟨⟨h2, h3⟩, fun x hx => ?_, by omega⟩, fun hm => ?_⟩, fun hm => ?_⟩
  ·have := h1 x hx
   simp only [okK, Bool.and_eq_true, decide_eq_true_eq] at this
   simp [okT, this]
  ·have := h1 _ hm
   exact absurd this (by decide)
  ·have := h1 _ hm
   exact absurd this (by decide)
 ·rintro ⟨⟨⟨⟨h2, h3⟩, h1, _⟩, h10⟩, h9⟩
  refine ⟨fun x hx => ?_, h2, h3⟩
  have := h1 x hx
  simp only [okT, Bool.or_eq_true, Bool.and_eq_true, decide_eq_true_eq, beq_iff_eq] at this
  simp only [okK, Bool.and_eq_true, decide_eq_true_eq]
  rcases this with (h | h) | h
  ·exact h
  ·exact absurd (show (9 : UInt8) ∈ s.data.toList by rw [← show x = 9 from UInt8.toNat_inj.1 h]; exact hx) h9
  ·exact absurd (show (10 : UInt8) ∈ s.data.toList by rw [← show x = 10 from UInt8.toNat_inj.1 h]; exact hx) h10
theorem treeKey_a (s : ByteArray) (hs : s.size ≤ 140737488355328) : AC Tryz.prog 175 [.str s] (.bool (keyB s)) := by
 have h1 := treeText_a s hs
 have h2 := contains1_a s 10
 have h3 := contains1_a s 9
 refine kE Tryz.func175 a_tree_Key_ok a_tree_Key_cb fun E hE => ?_
 refine kW ?_
 refine kQ [.v (.bool (textB s)), .v (.bool (decide (10 ∈ s.data.toList))), .v (.bool (decide (9 ∈ s.data.toList)))] ?_
 refine kW ?_
 refine AK.ret ⟨_, rfl, ?_⟩
 refine congrArg AV.bool ?_
 rw [key_eq]
 have hz := sz0 s
 by_cases h0 : s.size = 0
 ·have := hz.2 h0
  subst this
  rfl
 ·have hn : ¬ s = ⟨#[]⟩ := fun e => h0 (hz.1 e)
  have h1' : 1 ≤ s.size := by omega
  have h256 : decide ((s.size : Int) ≤ 256) = decide (s.size ≤ 256) := by rw [Bool.eq_iff_iff]; simp; omega
  rw [decide_eq_false hn, decide_eq_true h1', h256]
  rfl
end Go.Proofs.YtgidajjjpeboeaaGreatDoor
/-
 tree.bare, walked.
-/
namespace Go.Proofs.YtgidajjjpeboeaaGreatDoor
open Go.RowKit
structure Rc where
 rel : ByteArray
 rev : Int
 st : Int
 cmd : Int
 ch : ByteArray
 va : ByteArray
 ma : ByteArray
def rcA (r : Rc) : List AV := [.str r.rel, .int .i64 r.rev, .int .i64 r.st, .int .i64 r.cmd, .str r.ch, .str r.va, .str r.ma]
def rcOk (r : Rc) : Bool := nameB r.rel && (decide (1 ≤ r.rev) && decide (r.rev ≤ 1000000) && decide (1 ≤ r.st) && decide (r.st ≤ 5) && decide (1 ≤ r.cmd) && decide (r.cmd ≤ 4) && (textB r.ch && textB r.va && textB r.ma))
def Rc.sz (r : Rc) : Prop := r.rel.size ≤ 140737488355328 ∧ r.ch.size ≤ 140737488355328 ∧ r.va.size ≤ 140737488355328 ∧ r.ma.size ≤ 140737488355328
theorem recRight_a (r : Rc) (hz : r.sz) : AC Tryz.prog 86 [.agg (rcA r)] (.bool (rcOk r)) := by
 have h1 := recName_a r.rel hz.1
 have h2 := treeText_a r.ch hz.2.1
 have h3 := treeText_a r.va hz.2.2.1
 have h4 := treeText_a r.ma hz.2.2.2
 refine kE Tryz.func86 a_record_Right_ok a_record_Right_cb fun E hE => ?_
 refine kW ?_
 refine kQ [.v (.bool (nameB r.rel)), .v (.bool (textB r.ch)), .v (.bool (textB r.va)), .v (.bool (textB r.ma))] ?_
 refine kW ?_
 refine AK.ret ⟨_, rfl, ?_⟩
 refine congrArg AV.bool ?_
 rw [rcOk]
 cases nameB r.rel <;> cases textB r.ch <;> cases textB r.va <;> cases textB r.ma <;> simp [Bool.eq_iff_iff] <;> omega
theorem refRRight_a (r : Rc) (hz : r.sz) : AC Tryz.prog 99 [.agg (rcA r)] (.bool (rcOk r)) := by
 have h1 := refName_a r.rel hz.1
 have h2 := refText_a r.ch hz.2.1
 have h3 := refText_a r.va hz.2.2.1
 have h4 := refText_a r.ma hz.2.2.2
 refine kE Tryz.func99 a_ref17_Right_ok a_ref17_Right_cb fun E hE => ?_
 refine kW ?_
 refine kQ [.v (.bool (nameB r.rel)), .v (.bool (textB r.ch)), .v (.bool (textB r.va)), .v (.bool (textB r.ma))] ?_
 refine kW ?_
 refine AK.ret ⟨_, rfl, ?_⟩
 refine congrArg AV.bool ?_
 rw [rcOk]
 cases nameB r.rel <;> cases textB r.ch <;> cases textB r.va <;> cases textB r.ma <;> simp [Bool.eq_iff_iff] <;> omega
def kChart : ByteArray := ⟨#[99, 104, 97, 114, 116]⟩
def kCommand : ByteArray := ⟨#[99, 111, 109, 109, 97, 110, 100]⟩
def kManifest : ByteArray := ⟨#[109, 97, 110, 105, 102, 101, 115, 116]⟩
def kRelease : ByteArray := ⟨#[114, 101, 108, 101, 97, 115, 101]⟩
def kRevision : ByteArray := ⟨#[114, 101, 118, 105, 115, 105, 111, 110]⟩
def kStatus : ByteArray := ⟨#[115, 116, 97, 116, 117, 115]⟩
def kValues : ByteArray := ⟨#[118, 97, 108, 117, 101, 115]⟩
def recM (r : Rc) : List (ByteArray × V) := [(kChart, .str r.ch), (kCommand, .int r.cmd), (kManifest, .str r.ma), (kRelease, .str r.rel), (kRevision, .int r.rev), (kStatus, .int r.st), (kValues, .str r.va)]
def recV (r : Rc) : V := .mk 5 false 0 ⟨#[]⟩ [] (recM r)
theorem name_text {s : ByteArray} (h : nameB s = true) : textB s = true := by
 simp only [nameB, Bool.and_eq_true, decide_eq_true_eq] at h
 obtain ⟨_, h2, h3⟩ := h
 simp only [bareB, Bool.and_eq_true, Bool.not_eq_true', decide_eq_true_eq] at h2
 have hall : allTo okT s s.size := fun j hj _ => by
  have := h2.2 j hj
  simp only [bareAt, letN, moreN, Bool.or_eq_true, Bool.and_eq_true, Bool.not_eq_true', decide_eq_true_eq, decide_eq_false_iff_not] at this
  simp only [okT, Bool.or_eq_true, Bool.and_eq_true, decide_eq_true_eq, beq_iff_eq]
  omega
 rw [textB, allB_true hall, Bool.true_and, decide_eq_true_eq]
 omega
theorem str_good {s : ByteArray} (h : textB s = true) : (V.str s).good := by
 rw [V.str, V.good]
 exact ⟨by simp [kbad], h, trivial, trivial, trivial⟩
theorem int_good (n : Int) : (V.int n).good := by
 rw [V.int, V.good]
 exact ⟨by simp [kbad, noBytes], by decide +kernel, trivial, trivial, trivial⟩
theorem rec_good {r : Rc} (h : rcOk r = true) : (recV r).good := by
 simp only [rcOk, Bool.and_eq_true, decide_eq_true_eq] at h
 obtain ⟨hn, _, ⟨hc, hv⟩, hm⟩ := h
 rw [recV, V.good]
 refine ⟨by simp [kbad, noBytes], by decide +kernel, trivial, ?_, ?_⟩
 ·rw [goodM_iff]
  intro p hp
  simp only [recM, List.mem_cons, List.not_mem_nil, or_false] at hp
  have kk : ∀ k : ByteArray, k ∈ [kChart, kCommand, kManifest, kRelease, kRevision, kStatus, kValues] → keyB k = true := by decide +kernel
  rcases hp with rfl | rfl | rfl | rfl | rfl | rfl | rfl
  ·exact ⟨kk _ (by simp), str_good hc⟩
  ·exact ⟨kk _ (by simp), int_good _⟩
  ·exact ⟨kk _ (by simp), str_good hm⟩
  ·exact ⟨kk _ (by simp), str_good (name_text hn)⟩
  ·exact ⟨kk _ (by simp), int_good _⟩
  ·exact ⟨kk _ (by simp), int_good _⟩
  ·exact ⟨kk _ (by simp), str_good hv⟩
 ·have h1 : Op.bytesLess kChart.toList kCommand.toList = true := by decide +kernel
  have h2 : Op.bytesLess kCommand.toList kManifest.toList = true := by decide +kernel
  have h3 : Op.bytesLess kManifest.toList kRelease.toList = true := by decide +kernel
  have h4 : Op.bytesLess kRelease.toList kRevision.toList = true := by decide +kernel
  have h5 : Op.bytesLess kRevision.toList kStatus.toList = true := by decide +kernel
  have h6 : Op.bytesLess kStatus.toList kValues.toList = true := by decide +kernel
  exact ⟨h1, h2, h3, h4, h5, h6, trivial⟩
theorem rec_size (r : Rc) : (recV r).size = 8 := by simp [recV, recM, V.size, sizeM, sizeL, V.str, V.int]
end Go.Proofs.YtgidajjjpeboeaaGreatDoor
