/-
  Functions of the program as instructions.
-/
import Derived.Test.YtpcddcfpbohogaaDoorChecked
import Derived.Test.YtpcddcfpbohogaaDoorAF
import Derived.KernelRfl
namespace Go.Proofs.YtpcddcfpbohogaaDoor
set_option maxRecDepth 100000

/-- strings.HasPrefix -/
def b_strings_HasPrefix : ACode :=
  .seq (.reg [⟨none, .mov 4 (.k (.bool false))⟩]) (.seq (.reg [⟨none, .mov 5 (.s 0)⟩, ⟨none, .mov 6 (.s 1)⟩, ⟨none, .call (some 7) (.k (.fn 36 [])) [.s 5, .s 6]⟩, ⟨none, .mov 4 (.s 7)⟩]) .ret)
def a_strings_HasPrefix : AFn := ⟨2, 8, b_strings_HasPrefix, [.tmp 4]⟩
theorem a_strings_HasPrefix_ok : fnAF Tryd.prog [] Tryd.f17 = some a_strings_HasPrefix := by kernel_rfl
theorem a_strings_HasPrefix_cb : callable Tryd.prog 17 = true := by kernel_rfl

/-- internal stringslite.HasPrefix -/
def b_stringslite_HasPrefix : ACode :=
  .seq (.reg [⟨none, .mov 4 (.k (.bool false))⟩]) (.seq (.reg [⟨none, .mov 5 (.s 0)⟩, ⟨none, .len 6 true (.s 5)⟩, ⟨none, .mov 7 (.s 1)⟩, ⟨none, .len 8 true (.s 7)⟩, ⟨none, .bin 9 .geq false (.s 6) (.s 8)⟩, ⟨none, .mov 10 (.s 9)⟩, ⟨some (10, true), .mov 11 (.s 0)⟩, ⟨some (10, true), .mov 12 (.s 1)⟩, ⟨some (10, true), .len 13 true (.s 12)⟩, ⟨some (10, true), .sub 14 true 0 (.s 11) none (some (.s 13))⟩, ⟨some (10, true), .mov 15 (.s 1)⟩, ⟨some (10, true), .bin 16 .eql false (.s 14) (.s 15)⟩, ⟨none, .pick 17 (.s 10) (.s 16) (.k (.bool false))⟩, ⟨none, .mov 4 (.s 17)⟩]) .ret)
def a_stringslite_HasPrefix : AFn := ⟨2, 18, b_stringslite_HasPrefix, [.tmp 4]⟩
theorem a_stringslite_HasPrefix_ok : fnAF Tryd.prog [] Tryd.f36 = some a_stringslite_HasPrefix := by kernel_rfl
theorem a_stringslite_HasPrefix_cb : callable Tryd.prog 36 = true := by kernel_rfl

/-- strings.CutPrefix -/
def b_strings_CutPrefix : ACode :=
  .seq (.reg [⟨none, .mov 4 (.k (.str ⟨#[]⟩))⟩, ⟨none, .mov 5 (.k (.bool false))⟩]) (.seq (.reg [⟨none, .mov 6 (.s 0)⟩, ⟨none, .mov 7 (.s 1)⟩, ⟨none, .call (some 8) (.k (.fn 57 [])) [.s 6, .s 7]⟩, ⟨none, .ext 9 0 (.s 8)⟩, ⟨none, .ext 10 1 (.s 8)⟩, ⟨none, .mov 4 (.s 9)⟩, ⟨none, .mov 5 (.s 10)⟩]) .ret)
def a_strings_CutPrefix : AFn := ⟨2, 11, b_strings_CutPrefix, [.tmp 4, .tmp 5]⟩
theorem a_strings_CutPrefix_ok : fnAF Tryd.prog [] Tryd.f37 = some a_strings_CutPrefix := by kernel_rfl
theorem a_strings_CutPrefix_cb : callable Tryd.prog 37 = true := by kernel_rfl

/-- internal stringslite.CutPrefix -/
def b_stringslite_CutPrefix : ACode :=
  .seq (.reg [⟨none, .mov 4 (.k (.str ⟨#[]⟩))⟩, ⟨none, .mov 5 (.k (.bool false))⟩]) (.seq (.seq (.reg [⟨none, .mov 6 (.s 0)⟩, ⟨none, .mov 7 (.s 1)⟩, ⟨none, .call (some 8) (.k (.fn 36 [])) [.s 6, .s 7]⟩, ⟨none, .un 9 .not (.s 8)⟩]) (.cond (.s 9) (.seq (.reg [⟨none, .mov 10 (.s 0)⟩, ⟨none, .mov 4 (.s 10)⟩, ⟨none, .mov 5 (.k (.bool false))⟩]) .ret) .skip)) (.seq (.reg [⟨none, .mov 11 (.s 0)⟩, ⟨none, .mov 12 (.s 1)⟩, ⟨none, .len 13 true (.s 12)⟩, ⟨none, .sub 14 true 0 (.s 11) (some (.s 13)) none⟩, ⟨none, .mov 4 (.s 14)⟩, ⟨none, .mov 5 (.k (.bool true))⟩]) .ret))
def a_stringslite_CutPrefix : AFn := ⟨2, 15, b_stringslite_CutPrefix, [.tmp 4, .tmp 5]⟩
theorem a_stringslite_CutPrefix_ok : fnAF Tryd.prog [] Tryd.f57 = some a_stringslite_CutPrefix := by kernel_rfl
theorem a_stringslite_CutPrefix_cb : callable Tryd.prog 57 = true := by kernel_rfl

/-- mizzen mizzenref22.Sum -/
def b_ref22_Sum : ACode :=
  .seq (.reg [⟨none, .mov 2 (.k (.int .u64 0))⟩]) (.seq (.reg [⟨none, .mov 3 (.k (.int .u64 14695981039346656037))⟩]) (.seq (.seq (.reg [⟨none, .mov 4 (.k (.int .i64 0))⟩]) (.block 0 (.loop (.seq (.seq (.reg [⟨none, .mov 5 (.s 4)⟩, ⟨none, .mov 6 (.s 0)⟩, ⟨none, .len 7 true (.s 6)⟩, ⟨none, .bin 8 .lss false (.s 5) (.s 7)⟩]) (.cond (.s 8) .skip (.exit 0))) (.seq (.block 1 (.seq (.reg [⟨none, .mov 11 (.s 3)⟩, ⟨none, .mov 12 (.s 0)⟩, ⟨none, .mov 13 (.s 4)⟩, ⟨none, .bidx 14 (.s 12) (.s 13)⟩, ⟨none, .conv 15 .u64 (.s 14)⟩, ⟨none, .bin 16 .xor false (.s 11) (.s 15)⟩, ⟨none, .mov 3 (.s 16)⟩]) (.reg [⟨none, .mov 17 (.s 3)⟩, ⟨none, .bin 18 .mul false (.s 17) (.k (.int .u64 1099511628211))⟩, ⟨none, .mov 3 (.s 18)⟩]))) (.reg [⟨none, .mov 9 (.s 4)⟩, ⟨none, .bin 10 .add false (.s 9) (.k (.int .i64 1))⟩, ⟨none, .mov 4 (.s 10)⟩])))))) (.seq (.reg [⟨none, .mov 19 (.s 3)⟩, ⟨none, .mov 2 (.s 19)⟩]) .ret)))
def a_ref22_Sum : AFn := ⟨1, 20, b_ref22_Sum, [.tmp 2]⟩
theorem a_ref22_Sum_ok : fnAF Tryd.prog [] Tryd.f20 = some a_ref22_Sum := by kernel_rfl
theorem a_ref22_Sum_cb : callable Tryd.prog 20 = true := by kernel_rfl
end Go.Proofs.YtpcddcfpbohogaaDoor
