/-
  The texts that the claim wants, one behind the other: part 23.
-/
import Derived.Test.YtbfiopoefbbknaaGreatDoorS22
import Derived.Lib.Join
import Derived.Test.YtbfiopoefbbknaaGreatDoorChecked
import Derived.KernelRfl
import Derived.Shelf.Strings.Builder1
import Derived.Shelf.Strings.Builder2
import Derived.Shelf.Strings.OnBuilder
import Derived.Shelf.Strings.Trim
import Derived.Shelf.Small.Utf8
import Derived.Shelf.Small.Strs
import Derived.Shelf.Strings.BuilderF
import Derived.Shelf.Strings.BuilderK
import Derived.Shelf.Strings.Builder2Cap
import Derived.Shelf.Strconv.Atoi
import Derived.Shelf.Strconv.Itoa0
import Derived.Shelf.Strconv.Itoa1
import Derived.Shelf.LaysM
import Derived.Shelf.Strconv.Itoa2
import Derived.Shelf.Strconv.Itoa3
import Derived.Shelf.Strconv.Itoa4
import Derived.Shelf.Strconv.AtoiErrFast
import Derived.Shelf.Strconv.ParseIntEmpty
import Derived.Shelf.Strconv.AtoiFail
import Derived.Shelf.Strconv.Clone
import Derived.Shelf.Strconv.SyntaxError
import Derived.Shelf.LaysC
import Derived.Shelf.Strconv.ToError
import Derived.Shelf.Strconv.Lower
import Derived.Shelf.Strconv.ParseUint10
import Derived.Shelf.Strconv.ParseUint10Empty
import Derived.Shelf.Strconv.ParseUint10Any
import Derived.Shelf.Strconv.ParseInt10
import Derived.Shelf.Strconv.AtoiLong
import Derived.Shelf.Strconv.AtoiInnerAll
import Derived.Shelf.Strconv.RangeError
import Derived.Shelf.Strconv.ToErrorRange
import Derived.Shelf.Strconv.AtoiAll
import Derived.Shelf.Strconv.ParseUintEmpty
import Derived.Shelf.Strconv.ParseUint10b64
import Derived.Shelf.Strconv.ParseUint10b32
import Derived.Shelf.Strconv.ParseUint10b16
import Derived.Shelf.Strconv.ParseUint10b8
import Derived.Shelf.Strconv.ParseUint10At
import Derived.Shelf.Strconv.ParseInt10At64
import Derived.Shelf.Strconv.ParseInt10At32
import Derived.Shelf.Strconv.ParseInt10At16
import Derived.Shelf.Strconv.ParseInt10At8
import Derived.Shelf.Strconv.ParseInt10All
import Derived.Shelf.Strconv.ParseIntPublic10
import Derived.Shelf.Strconv.ErrVarParseInt
import Derived.Shelf.Strings.Search1
import Derived.Shelf.Strings.Search2
import Derived.Shelf.Strings.Search3
import Derived.Shelf.Strings.Cut
import Derived.Shelf.Strings.Count
import Derived.Shelf.Strings.Shaped
import Derived.Shelf.Strings.LastIndex
import Derived.Shelf.Strings.LastIndexAll
import Derived.Shelf.Strings.Prefix
import Derived.Shelf.Strings.Split
import Derived.Shelf.Strings.Runes
import Derived.Shelf.Strings.AsciiSet
import Derived.Shelf.Bits.Mul64
import Derived.Shelf.Strings.Repeat
import Derived.Shelf.Unicode.DecodeSlow
import Derived.Test.YtbfiopoefbbknaaGreatDoorProg
set_option linter.unusedSimpArgs false
set_option linter.unusedVariables false
namespace Go.Proofs.YtbfiopoefbbknaaGreatDoor
set_option maxRecDepth 100000
def b_ref05_Emit : ACode :=
 .seq (gQ [gP 1 0, ⟨gO, .mov 2 (gS ⟨#[]⟩)⟩]) (.seq (.seq (gQ [gA 3 6 1, gC 4 81 [.s 3]]) (.cond (.s 4) (.seq (gQ [gA 5 6 1, gC 6 82 [.s 5], ⟨gO, gB 7 .add (.s 6) (gS ⟨#[10]⟩)⟩, gM 2 7]) .ret) .skip)) (.seq (gQ [gA 8 6 1, gC 9 83 [.s 8, gI 0], gM 2 9]) .ret))
def a_ref05_Emit : AFn := ⟨1, 10, b_ref05_Emit, [.tmp 2]⟩
theorem a_ref05_Emit_ok : fnAF Tryz.prog [] Tryz.f45 = some a_ref05_Emit := by kernel_rfl
theorem a_ref05_Emit_cb : callable Tryz.prog 45 = true := by kernel_rfl
def b_ref05_lay : ACode :=
 .seq (gQ [gP 2 0, ⟨gO, .mov 4 (gS ⟨#[]⟩)⟩]) (.seq (gQ [⟨gO, .mov 5 (gS ⟨#[]⟩)⟩]) (.seq (.seq (gQ [gJ 6 0]) (.block 0 (.loop (.seq (.seq (gQ [gM 8 6, gF 9 4 2, gL 10 9, gH 11 false 10, gV 12 .lss 8 11]) (.cond (.s 12) .skip (.exit 0))) (.seq (.block 1 (.reg [gM 15 5, gM 16 1, gC 17 122 [.s 16], gV 18 .add 15 17, ⟨gO, gB 19 .add (.s 18) (gS ⟨#[45]⟩)⟩, gF 20 4 2, gL 21 20, gM 22 6, gE 23 6 21 22, gA 24 6 23, gM 25 1, gC 26 123 [.s 24, .s 25], gV 27 .add 19 26, gM 5 27])) (.reg [gM 13 6, gU 14 .add 13 1, gM 6 14])))))) (.seq (.seq (gQ [gJ 7 0]) (.block 2 (.loop (.seq (.seq (gQ [gM 28 7, gF 29 5 2, gL 30 29, gH 31 false 30, gV 32 .lss 28 31]) (.cond (.s 32) .skip (.exit 2))) (.seq (.block 3 (.reg [gM 35 5, gM 36 1, gC 37 122 [.s 36], gV 38 .add 35 37, gF 39 5 2, gL 40 39, gM 41 7, gE 42 7 40 41, gF 43 0 42, gL 44 43, gC 45 124 [.s 44], gV 46 .add 38 45, ⟨gO, gB 47 .add (.s 46) (gS ⟨#[58]⟩)⟩, gF 48 5 2, gL 49 48, gM 50 7, gE 51 7 49 50, gF 52 1 51, gA 53 6 52, gM 54 1, gC 55 123 [.s 53, .s 54], gV 56 .add 47 55, gM 5 56])) (.reg [gM 33 7, gU 34 .add 33 1, gM 7 34])))))) (.seq (gQ [gM 57 5, gM 4 57]) .ret))))
def a_ref05_lay : AFn := ⟨2, 58, b_ref05_lay, [.tmp 4]⟩
theorem a_ref05_lay_ok : fnAF Tryz.prog [] Tryz.f83 = some a_ref05_lay := by kernel_rfl
theorem a_ref05_lay_cb : callable Tryz.prog 83 = true := by kernel_rfl
def b_ref05_tail : ACode :=
 .seq (gQ [gP 2 0, ⟨gO, .mov 4 (gS ⟨#[]⟩)⟩]) (.seq (.seq (gQ [gA 5 6 2, gC 6 81 [.s 5]]) (.cond (.s 6) (.seq (gQ [gA 7 6 2, gC 8 82 [.s 7], ⟨gO, gB 9 .add (gS ⟨#[32]⟩) (.s 8)⟩, ⟨gO, gB 10 .add (.s 9) (gS ⟨#[10]⟩)⟩, gM 4 10]) .ret) .skip)) (.seq (gQ [gA 11 6 2, gM 12 1, gU 13 .add 12 2, gC 14 83 [.s 11, .s 13], ⟨gO, gB 15 .add (gS ⟨#[10]⟩) (.s 14)⟩, gM 4 15]) .ret))
def a_ref05_tail : AFn := ⟨2, 16, b_ref05_tail, [.tmp 4]⟩
theorem a_ref05_tail_ok : fnAF Tryz.prog [] Tryz.f123 = some a_ref05_tail := by kernel_rfl
theorem a_ref05_tail_cb : callable Tryz.prog 123 = true := by kernel_rfl
def b_ref05_blanks : ACode :=
 .seq (gQ [⟨gO, .mov 2 (gS ⟨#[]⟩)⟩]) (.seq (gQ [⟨gO, .mov 3 (gS ⟨#[]⟩)⟩]) (.seq (.seq (gQ [gJ 4 0]) (.block 0 (.loop (.seq (.seq (gQ [gM 5 4, gM 6 0, gV 7 .lss 5 6]) (.cond (.s 7) .skip (.exit 0))) (.seq (.block 1 (.reg [gM 10 3, ⟨gO, gB 11 .add (.s 10) (gS ⟨#[32]⟩)⟩, gM 3 11])) (.reg [gM 8 4, gU 9 .add 8 1, gM 4 9])))))) (.seq (gQ [gM 12 3, gM 2 12]) .ret)))
def a_ref05_blanks : AFn := ⟨1, 13, b_ref05_blanks, [.tmp 2]⟩
theorem a_ref05_blanks_ok : fnAF Tryz.prog [] Tryz.f122 = some a_ref05_blanks := by kernel_rfl
theorem a_ref05_blanks_cb : callable Tryz.prog 122 = true := by kernel_rfl
def b_ref05_empty : ACode :=
 .seq (gQ [gP 1 0, ⟨gO, .mov 2 (.k (.bool false))⟩]) (.seq (gQ [gF 3 4 1, gL 4 3, gH 5 false 4, gU 6 .eql 5 0, gM 7 6, ⟨some (7, true), .off 8 5 (.s 1)⟩, ⟨some (7, true), .ld 9 1 false (.s 8)⟩, ⟨some (7, true), .len 10 false (.s 9)⟩, ⟨some (7, true), .bin 11 .eql false (.s 10) (gI 0)⟩, ⟨gO, .pick 12 (.s 7) (.s 11) (.k (.bool false))⟩, gM 2 12]) .ret)
def a_ref05_empty : AFn := ⟨1, 13, b_ref05_empty, [.tmp 2]⟩
theorem a_ref05_empty_ok : fnAF Tryz.prog [] Tryz.f81 = some a_ref05_empty := by kernel_rfl
theorem a_ref05_empty_cb : callable Tryz.prog 81 = true := by kernel_rfl
def b_ref05_key : ACode :=
 .seq (gQ [⟨gO, .mov 2 (gS ⟨#[]⟩)⟩]) (.seq (gQ [gM 3 0, ⟨gO, .build 4 gZ [(0, 1, gI 3), (3, 1, .s 3)]⟩, gC 5 82 [.s 4], gM 2 5]) .ret)
def a_ref05_key : AFn := ⟨1, 6, b_ref05_key, [.tmp 2]⟩
theorem a_ref05_key_ok : fnAF Tryz.prog [] Tryz.f124 = some a_ref05_key := by kernel_rfl
theorem a_ref05_key_cb : callable Tryz.prog 124 = true := by kernel_rfl
end Go.Proofs.YtbfiopoefbbknaaGreatDoor
