/-
  The texts that the claim wants, one behind the other: part 10.
-/
import Derived.Test.YtgidajjjpeboeaaGreatDoorS9
import Derived.Test.YtgidajjjpeboeaaGreatDoorChecked
import Derived.KernelRfl
set_option linter.unusedSimpArgs false
set_option linter.unusedVariables false
namespace Go.Proofs.YtgidajjjpeboeaaGreatDoor
set_option maxRecDepth 100000
def b_ref04_Bare : ACode :=
 .seq (gQ [⟨gO, .mov 2 (.k (.bool false))⟩]) (.seq (.seq (gQ [gM 7 0, gH 8 true 7, gU 9 .eql 8 0, gM 10 9, gN 10 false 11 0, ⟨some (10, false), .bin 12 .eql false (.s 11) (gS ⟨#[110, 117, 108, 108]⟩)⟩, ⟨gO, .pick 13 (.s 10) (.k (.bool true)) (.s 12)⟩, gM 14 13, gN 14 false 15 0, ⟨some (14, false), .bin 16 .eql false (.s 15) (gS ⟨#[116, 114, 117, 101]⟩)⟩, ⟨gO, .pick 17 (.s 14) (.k (.bool true)) (.s 16)⟩, gM 18 17, gN 18 false 19 0, ⟨some (18, false), .bin 20 .eql false (.s 19) (gS ⟨#[102, 97, 108, 115, 101]⟩)⟩, ⟨gO, .pick 21 (.s 18) (.k (.bool true)) (.s 20)⟩]) (.cond (.s 21) (.seq (gQ [⟨gO, .mov 2 (.k (.bool false))⟩]) .ret) .skip)) (.seq (.seq (gQ [gJ 3 0]) (.block 0 (.loop (.seq (.seq (gQ [gM 22 3, gM 23 0, gH 24 true 23, gV 25 .lss 22 24]) (.cond (.s 25) .skip (.exit 0))) (.seq (.block 1 (.seq (gQ [gM 28 0, gM 29 3, ⟨gO, .bidx 30 (.s 28) (.s 29)⟩, gM 4 30]) (.seq (gQ [gM 31 4, ⟨gO, gB 32 .geq (.s 31) (.k (.int .u8 65))⟩, gM 33 32, gN 33 true 34 4, ⟨some (33, true), .bin 35 .leq false (.s 34) (.k (.int .u8 90))⟩, ⟨gO, .pick 36 (.s 33) (.s 35) (.k (.bool false))⟩, gM 37 36, gN 37 false 38 4, ⟨some (37, false), .bin 39 .geq false (.s 38) (.k (.int .u8 97))⟩, gN 37 false 40 39, gN 40 true 41 4, ⟨some (40, true), .bin 42 .leq false (.s 41) (.k (.int .u8 122))⟩, ⟨some (37, false), .pick 43 (.s 40) (.s 42) (.k (.bool false))⟩, ⟨gO, .pick 44 (.s 37) (.k (.bool true)) (.s 43)⟩, gM 5 44]) (.seq (gQ [gM 45 4, ⟨gO, gB 46 .geq (.s 45) (.k (.int .u8 48))⟩, gM 47 46, gN 47 true 48 4, ⟨some (47, true), .bin 49 .leq false (.s 48) (.k (.int .u8 57))⟩, ⟨gO, .pick 50 (.s 47) (.s 49) (.k (.bool false))⟩, gM 51 50, gN 51 false 52 4, ⟨some (51, false), .bin 53 .eql false (.s 52) (.k (.int .u8 95))⟩, ⟨gO, .pick 54 (.s 51) (.k (.bool true)) (.s 53)⟩, gM 55 54, gN 55 false 56 4, ⟨some (55, false), .bin 57 .eql false (.s 56) (.k (.int .u8 45))⟩, ⟨gO, .pick 58 (.s 55) (.k (.bool true)) (.s 57)⟩, gM 59 58, gN 59 false 60 4, ⟨some (59, false), .bin 61 .eql false (.s 60) (.k (.int .u8 46))⟩, ⟨gO, .pick 62 (.s 59) (.k (.bool true)) (.s 61)⟩, gM 63 62, gN 63 false 64 4, ⟨some (63, false), .bin 65 .eql false (.s 64) (.k (.int .u8 47))⟩, ⟨gO, .pick 66 (.s 63) (.k (.bool true)) (.s 65)⟩, gM 6 66]) (.seq (gQ [gM 67 5, ⟨gO, .un 68 .not (.s 67)⟩, gM 69 68, gN 69 true 70 3, ⟨some (69, true), .bin 71 .eql false (.s 70) (gI 0)⟩, gN 69 true 72 71, gN 72 false 73 6, ⟨some (72, false), .un 74 .not (.s 73)⟩, ⟨some (69, true), .pick 75 (.s 72) (.k (.bool true)) (.s 74)⟩, ⟨gO, .pick 76 (.s 69) (.s 75) (.k (.bool false))⟩]) (.cond (.s 76) (.seq (gQ [⟨gO, .mov 2 (.k (.bool false))⟩]) .ret) .skip)))))) (.reg [gM 26 3, gU 27 .add 26 1, gM 3 27])))))) (.seq (gQ [⟨gO, .mov 2 (.k (.bool true))⟩]) .ret)))
def a_ref04_Bare : AFn := ⟨1, 77, b_ref04_Bare, [.tmp 2]⟩
theorem a_ref04_Bare_ok : fnAF Tryz.prog [] Tryz.f101 = some a_ref04_Bare := by kernel_rfl
theorem a_ref04_Bare_cb : callable Tryz.prog 101 = true := by kernel_rfl
def b_ref04_Digits : ACode :=
 .seq (gQ [⟨gO, .mov 2 (gS ⟨#[]⟩)⟩]) (.seq (gQ [⟨gO, .mov 3 (gS ⟨#[]⟩)⟩]) (.seq (gQ [gM 6 0, gU 7 .lss 6 0, gM 4 7]) (.seq (.block 0 (.loop (.block 1 (.seq (gQ [gM 8 0, gU 9 .rem 8 10, gM 5 9]) (.seq (.seq (gQ [gM 10 5, gU 11 .lss 10 0]) (.cond (.s 11) (.reg [gM 12 5, ⟨gO, .un 13 .neg (.s 12)⟩, gM 5 13]) .skip)) (.seq (gQ [gM 14 5, ⟨gO, gB 15 .add (gI 48) (.s 14)⟩, ⟨gO, .conv 16 .u8 (.s 15)⟩, ⟨gO, .bsl 17 1 1 [.int .u8 0] [(0, 1, .s 16)]⟩, ⟨gO, .b2s 18 (.s 17)⟩, gM 19 3, gV 20 .add 18 19, gM 3 20]) (.seq (gQ [gM 21 0, gU 22 .quo 21 10, gM 0 22]) (.seq (gQ [gM 23 0, gU 24 .eql 23 0]) (.cond (.s 24) (.exit 0) .skip))))))))) (.seq (.seq (gQ [gM 25 4]) (.cond (.s 25) (.seq (gQ [gM 26 3, ⟨gO, gB 27 .add (gS ⟨#[45]⟩) (.s 26)⟩, gM 2 27]) .ret) .skip)) (.seq (gQ [gM 28 3, gM 2 28]) .ret)))))
def a_ref04_Digits : AFn := ⟨1, 29, b_ref04_Digits, [.tmp 2]⟩
theorem a_ref04_Digits_ok : fnAF Tryz.prog [] Tryz.f102 = some a_ref04_Digits := by kernel_rfl
theorem a_ref04_Digits_cb : callable Tryz.prog 102 = true := by kernel_rfl
def b_scalar_letter : ACode :=
 .seq (gQ [⟨gO, .mov 2 (.k (.bool false))⟩]) (.seq (gQ [gM 3 0, ⟨gO, gB 4 .geq (.s 3) (.k (.int .u8 97))⟩, gM 5 4, gN 5 true 6 0, ⟨some (5, true), .bin 7 .leq false (.s 6) (.k (.int .u8 122))⟩, ⟨gO, .pick 8 (.s 5) (.s 7) (.k (.bool false))⟩, gM 9 8, gN 9 false 10 0, ⟨some (9, false), .bin 11 .geq false (.s 10) (.k (.int .u8 65))⟩, gN 9 false 12 11, gN 12 true 13 0, ⟨some (12, true), .bin 14 .leq false (.s 13) (.k (.int .u8 90))⟩, ⟨some (9, false), .pick 15 (.s 12) (.s 14) (.k (.bool false))⟩, ⟨gO, .pick 16 (.s 9) (.k (.bool true)) (.s 15)⟩, gM 2 16]) .ret)
def a_scalar_letter : AFn := ⟨1, 17, b_scalar_letter, [.tmp 2]⟩
theorem a_scalar_letter_ok : fnAF Tryz.prog [] Tryz.f154 = some a_scalar_letter := by kernel_rfl
theorem a_scalar_letter_cb : callable Tryz.prog 154 = true := by kernel_rfl
def b_scalar_digit : ACode :=
 .seq (gQ [⟨gO, .mov 2 (.k (.bool false))⟩]) (.seq (gQ [gM 3 0, ⟨gO, gB 4 .geq (.s 3) (.k (.int .u8 48))⟩, gM 5 4, gN 5 true 6 0, ⟨some (5, true), .bin 7 .leq false (.s 6) (.k (.int .u8 57))⟩, ⟨gO, .pick 8 (.s 5) (.s 7) (.k (.bool false))⟩, gM 2 8]) .ret)
def a_scalar_digit : AFn := ⟨1, 9, b_scalar_digit, [.tmp 2]⟩
theorem a_scalar_digit_ok : fnAF Tryz.prog [] Tryz.f155 = some a_scalar_digit := by kernel_rfl
theorem a_scalar_digit_cb : callable Tryz.prog 155 = true := by kernel_rfl
def b_scalar_Bare : ACode :=
 .seq (gQ [⟨gO, .mov 2 (.k (.bool false))⟩]) (.seq (.seq (gQ [gM 5 0, gH 6 true 5, gJ 7 0]) (.block 0 (.loop (.seq (gQ [gV 8 .lss 7 6]) (.seq (.cond (.s 8) .skip (.exit 0)) (.seq (.block 1 (.seq (gQ [gM 9 7, gM 3 9]) (.seq (gQ [gM 10 0, gM 11 3, ⟨gO, .bidx 12 (.s 10) (.s 11)⟩, gM 4 12]) (.seq (gQ [gM 13 4, gC 14 154 [.s 13], ⟨gO, .un 15 .not (.s 14)⟩, gM 16 15, gN 16 true 17 3, ⟨some (16, true), .bin 18 .eql false (.s 17) (gI 0)⟩, gN 16 true 19 18, gN 19 false 20 4, ⟨some (19, false), .call (some 21) (.k (.fn 155 [])) [.s 20]⟩, ⟨some (19, false), .un 22 .not (.s 21)⟩, gN 19 false 23 22, gN 23 true 24 4, ⟨some (23, true), .call (some 25) (.k (.fn 156 [])) [gS ⟨#[95, 45, 46, 47]⟩, .s 24]⟩, ⟨some (23, true), .bin 26 .lss false (.s 25) (gI 0)⟩, ⟨some (19, false), .pick 27 (.s 23) (.s 26) (.k (.bool false))⟩, ⟨some (16, true), .pick 28 (.s 19) (.k (.bool true)) (.s 27)⟩, ⟨gO, .pick 29 (.s 16) (.s 28) (.k (.bool false))⟩]) (.cond (.s 29) (.seq (gQ [⟨gO, .mov 2 (.k (.bool false))⟩]) .ret) .skip))))) (.reg [gU 30 .add 7 1, gM 7 30]))))))) (.seq (.seq (gQ [gM 31 0]) (.block 2 (.seq (.seq (gQ [⟨gO, gB 33 .eql (.s 31) (gS ⟨#[]⟩)⟩, gM 32 33]) (.cond (.s 32) .skip (.seq (gQ [⟨gO, gB 34 .eql (.s 31) (gS ⟨#[110, 117, 108, 108]⟩)⟩, gM 32 34]) (.cond (.s 32) .skip (.seq (gQ [⟨gO, gB 35 .eql (.s 31) (gS ⟨#[116, 114, 117, 101]⟩)⟩, gM 32 35]) (.cond (.s 32) .skip (.reg [⟨gO, gB 36 .eql (.s 31) (gS ⟨#[102, 97, 108, 115, 101]⟩)⟩, gM 32 36]))))))) (.cond (.s 32) (.seq (gQ [⟨gO, .mov 2 (.k (.bool false))⟩]) .ret) .skip)))) (.seq (gQ [⟨gO, .mov 2 (.k (.bool true))⟩]) .ret)))
def a_scalar_Bare : AFn := ⟨1, 37, b_scalar_Bare, [.tmp 2]⟩
theorem a_scalar_Bare_ok : fnAF Tryz.prog [] Tryz.f95 = some a_scalar_Bare := by kernel_rfl
theorem a_scalar_Bare_cb : callable Tryz.prog 95 = true := by kernel_rfl
def b_tree_Text : ACode :=
 .seq (gQ [⟨gO, .mov 2 (.k (.bool false))⟩]) (.seq (.seq (gQ [gM 5 0, gH 6 true 5, gJ 7 0]) (.block 0 (.loop (.seq (gQ [gV 8 .lss 7 6]) (.seq (.cond (.s 8) .skip (.exit 0)) (.seq (.block 1 (.seq (gQ [gM 9 7, gM 3 9]) (.seq (gQ [gM 10 0, gM 11 3, ⟨gO, .bidx 12 (.s 10) (.s 11)⟩, gM 4 12]) (.seq (gQ [gM 13 4, ⟨gO, gB 14 .lss (.s 13) (.k (.int .u8 32))⟩, gM 15 14, gN 15 true 16 4, ⟨some (15, true), .bin 17 .neq false (.s 16) (.k (.int .u8 10))⟩, ⟨gO, .pick 18 (.s 15) (.s 17) (.k (.bool false))⟩, gM 19 18, gN 19 true 20 4, ⟨some (19, true), .bin 21 .neq false (.s 20) (.k (.int .u8 9))⟩, ⟨gO, .pick 22 (.s 19) (.s 21) (.k (.bool false))⟩, gM 23 22, gN 23 false 24 4, ⟨some (23, false), .bin 25 .gtr false (.s 24) (.k (.int .u8 126))⟩, ⟨gO, .pick 26 (.s 23) (.k (.bool true)) (.s 25)⟩]) (.cond (.s 26) (.seq (gQ [⟨gO, .mov 2 (.k (.bool false))⟩]) .ret) .skip))))) (.reg [gU 27 .add 7 1, gM 7 27]))))))) (.seq (gQ [gM 28 0, gH 29 true 28, gU 30 .leq 29 65536, gM 2 30]) .ret))
def a_tree_Text : AFn := ⟨1, 31, b_tree_Text, [.tmp 2]⟩
theorem a_tree_Text_ok : fnAF Tryz.prog [] Tryz.f135 = some a_tree_Text := by kernel_rfl
theorem a_tree_Text_cb : callable Tryz.prog 135 = true := by kernel_rfl
def b_tree_Str : ACode :=
 .seq (gQ [⟨gO, .alloc 2 gZ⟩]) (.seq (gQ [gM 3 0, ⟨gO, .build 4 gZ [(0, 1, gI 3), (3, 1, .s 3)]⟩, gT 6 2 4]) .ret)
def a_tree_Str : AFn := ⟨1, 5, b_tree_Str, [.cell 2 6 true]⟩
theorem a_tree_Str_ok : fnAF Tryz.prog [] Tryz.f138 = some a_tree_Str := by kernel_rfl
theorem a_tree_Str_cb : callable Tryz.prog 138 = true := by kernel_rfl
end Go.Proofs.YtgidajjjpeboeaaGreatDoor
namespace Go.Proofs.YtgidajjjpeboeaaGreatDoor
open Go.RowKit
theorem fw0 : Tryz.prog.follows .mixedOrders = true := by kernel_rfl
theorem kW {p q : Prop} (h : q) (f : q → p := by intro hh; (repeat (first | apply kS | apply kB | apply kL | apply kN | refine kA fw0 ?_)); exact hh) : p := f h
theorem kQ {P : Program} {E : Env} {Q : Exit → Fr → St → Prop} {k : List AItem} {fr fr' : Fr} {st st' : St} (rs : List RS) {l : List GI} {rs' : List RS} {p : Prop} (h : AK P E Q k fr' st') (hs : arun P l rs fr st = some (rs', fr', st', p) := by rfl)
  (hp : p := by (repeat' apply And.intro) <;> first | exact kD | (intro hgd; refine ⟨?_, kG⟩; (repeat' apply And.intro) <;> exact kD)) (hm : P.follows .mixedOrders = true := by exact fw0) : AK P E Q (.c (.reg l) :: k) fr st := kR hm rs hs hp h
theorem kP {P : Program} {E : Env} {Q : Exit → Fr → St → Prop} {k : List AItem} {fr fr' : Fr} {st st' : St} (rs : List RS) {l : List GI} {rs' : List RS} {p : Prop} (hp : p) (h : AK P E Q k fr' st') (hs : arun P l rs fr st = some (rs', fr', st', p) := by rfl) (hm : P.follows .mixedOrders = true := by exact fw0) : AK P E Q (.c (.reg l) :: k) fr st := kR hm rs hs hp h
theorem kE {P : Program} {mu : List Nat} {f : FuncId} {fn : Func} {af : AFn} {args : List AV} {r : AV} (hf : P.funcs[f]? = some fn) (haf : fnAF P mu fn = some af) (hcb : callable P f = true)
  (h : ∀ E : Env, E.n = af.n → AK P E (RQ af.res r) [.c af.body] (argFr 0 args) ⟨fun _ => none, fun _ => 0⟩) (hl : Nat.ble args.length af.n = true := by rfl) : AC P f args r := AC.enter hf haf hcb hl h
theorem kC {P : Program} {E : Env} {Q : Exit → Fr → St → Prop} {k : List AItem} {fr : Fr} {st : St} {x : Opd} {t e : ACode} {b : Bool} (h1 : b = true → AK P E Q (.c t :: k) fr st) (h2 : b = false → AK P E Q (.c e :: k) fr st) (hx : x.ev fr = some (.bool b) := by rfl) : AK P E Q (.c (.cond x t e) :: k) fr st := AK.cond hx h1 h2
theorem kI {st : St} {fr : Fr} {s : Nat} {x : AV} (h : fr s = some x := by rfl) : ∃ v, fr s = some v ∧ AVle st v x := ⟨x, h, .refl _⟩
theorem kJ {st : St} {s : Nat} {cs : List AV} {fz : Bool} (h : st.box s = some (cs, fz) := by rfl) : ∃ ds, st.box s = some (ds, fz) ∧ leL st ds cs := ⟨cs, h, leL_refl _⟩
theorem kU {st : St} {fr : Fr} {s : Nat} {k : IntKind} {a b : Int} (h : fr s = some (.int k a) := by rfl) (e : a = b := by first | omega | (rw [wrap_in (by omega) (by omega)]; omega)) : ∃ v, fr s = some v ∧ AVle st v (.int k b) := ⟨_, h, .of_eq (congrArg _ e)⟩
theorem byte_at {s : ByteArray} {k : Nat} (h : k < s.size) : s.data.getD k 0 = s[k] := by
 rw [Array.getD, dif_pos (show k < s.data.size from h)]
 rfl
def letN (c : Nat) : Bool := decide (65 ≤ c) && decide (c ≤ 90) || decide (97 ≤ c) && decide (c ≤ 122)
def moreN (c : Nat) : Bool := decide (48 ≤ c) && decide (c ≤ 57) || decide (c = 95) || decide (c = 45) || decide (c = 46) || decide (c = 47)
def bareAt (k c : Nat) : Bool := letN c || (!decide (k = 0) && moreN c)
def bareWord (s : ByteArray) : Bool := decide (s.size = 0) || decide (s = ⟨#[110, 117, 108, 108]⟩) || decide (s = ⟨#[116, 114, 117, 101]⟩) || decide (s = ⟨#[102, 97, 108, 115, 101]⟩)
def bareB (s : ByteArray) : Bool := !bareWord s && decide (∀ k, (h : k < s.size) → bareAt k s[k].toNat = true)
theorem bareB_no {s : ByteArray} {k : Nat} (h : k < s.size) (hb : bareAt k s[k].toNat = false) : bareB s = false := by
 unfold bareB
 rw [Bool.and_eq_false_iff]
 refine .inr (decide_eq_false fun hA => ?_)
 rw [hA k h] at hb
 cases hb
theorem refBare_a (s : ByteArray) (hs : s.size ≤ 140737488355328) : AC Tryz.prog 101 [.str s] (.bool (bareB s)) := by
 refine kE Tryz.func101 a_ref04_Bare_ok a_ref04_Bare_cb fun E hE => ?_
 refine kW ?_
 refine kQ [] ?_
 refine kC (fun hb => ?_) fun hb => ?_
 ·have hw : bareWord s = true := by
   rw [← hb]; unfold bareWord
   simp
  refine kW ?_
  refine AK.ret ⟨_, rfl, ?_⟩
  rw [bareB, hw]
  rfl
 have hw : bareWord s = false := by
  rw [← hb]; unfold bareWord
  simp
 refine kW ?_
 refine AK.loopI (fun k : Nat => (frOf [(0, .str s), (3, .int .i64 k)], ⟨boxOf [], fun _ => 0⟩)) (fun k => k ≤ s.size ∧ ∀ j, (h : j < s.size) → j < k → bareAt j s[j].toNat = true) (fun k => s.size - k) 0 ⟨by omega, fun j h h2 => by omega⟩ (Weak.intro ⟨kI, kI, trivial⟩ trivial rfl rfl) fun k ⟨hk, hno⟩ => ?_
 refine kW ?_
 refine kC (fun hb => ?_) fun hb => ?_
 ·have hlt : k < s.size := by simpa using hb
  refine kW ?_
  refine kQ [] ?_
  rw [show s.data.getD (k : Int).toNat 0 = s[k] from byte_at hlt]
  refine kW ?_
  refine kQ [] ?_
  refine kW ?_
  refine kQ [] ?_
  refine kW ?_
  refine kQ [] ?_
  refine kC (fun hb => ?_) fun hb => ?_
  ·have hf : bareAt k s[k].toNat = false := by
    simp only [Bool.or_eq_true, Bool.and_eq_true, Bool.not_eq_true', Bool.or_eq_false_iff, Bool.and_eq_false_iff, decide_eq_true_eq, decide_eq_false_iff_not] at hb
    simp only [bareAt, letN, moreN, Bool.or_eq_false_iff, Bool.and_eq_false_iff, Bool.not_eq_false', decide_eq_true_eq, decide_eq_false_iff_not]
    omega
   refine kW ?_
   refine AK.ret ⟨_, rfl, ?_⟩
   rw [bareB_no hlt hf]
   rfl
  ·have ht : bareAt k s[k].toNat = true := by
    simp only [Bool.or_eq_true, Bool.and_eq_true, Bool.not_eq_false', Bool.or_eq_false_iff, Bool.and_eq_false_iff, decide_eq_true_eq, decide_eq_false_iff_not] at hb
    simp only [bareAt, letN, moreN, Bool.or_eq_true, Bool.and_eq_true, Bool.not_eq_true', decide_eq_true_eq, decide_eq_false_iff_not]
    omega
   refine kW ?_
   exact AK.lp ⟨k + 1, ⟨by omega, fun j h h2 => by
    by_cases e : j = k
    ·subst e; exact ht
    ·exact hno j h (by omega)⟩, Weak.intro ⟨kI, kU, trivial⟩ trivial rfl rfl, by omega⟩
 ·have hlt : s.size ≤ k := by simpa using hb
  refine AK.exit rfl ?_
  refine kW ?_
  refine AK.ret ⟨_, rfl, ?_⟩
  have : bareB s = true := by
   rw [bareB, hw, Bool.not_false, Bool.true_and]
   exact decide_eq_true fun j h => hno j h (by omega)
  rw [this]
  rfl
end Go.Proofs.YtgidajjjpeboeaaGreatDoor
