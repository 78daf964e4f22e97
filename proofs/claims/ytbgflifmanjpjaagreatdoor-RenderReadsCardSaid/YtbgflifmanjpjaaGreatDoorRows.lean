/-
  NARROWER THAN 'FOR EVERY INPUT', by the rows' own cells (each row's printed sentence says how): ValuesDots: loops, laid · ChartMakes: laid · ChartRuns: loops, laid · RenderReads: laid.
  DERIVED. THE GIVEN ROWS OF THIS SEAT. 4 by the template 'for every input the law returns true; each argument reads behind the call as it read before'; 0 by the template 'total and deterministic' (their statements: YtbgflifmanjpjaaGreatDoorTotals.lean).
  GIVEN WITH THE SEED: the statements are not yours to turn. If you find one false, say at which input.
  Laid BY PROGRAM, IN A SANDBOX (cutbox-rows.mjs): the forced cells as the released guide's own fill.sh prints them over the translation d42ea24053d1db28… (all of the seat's roots in one cut). By AI agents, Wed Nov 11 2026. No macro, syntax, notation, axiom, sorry.
-/
import Derived.Test.YtbgflifmanjpjaaGreatDoorChecked
import GoSem.PinnedTables
import GoSem.Claim
import GoSem.ClaimJoined
import GoSem.ClaimMapViews
import Derived.JoinedTies
import Derived.KernelRfl
namespace Go.Proofs.YtbgflifmanjpjaaGreatDoor
/- THE CELL 'sum', in the pinned program and in every row, IS THE sha256 OF THE DUMP (.gsa) THAT YtbgflifmanjpjaaGreatDoorProg.lean LOADS. Nothing in Lean hashes anything: it is a label: what it is worth is what the hold of that sum in a sandbox is worth. -/
noncomputable def Tryz.pinned : Pinned := { name := "ytbgflifmanjpjaagreatdoor", sum := "d42ea24053d1db28ae101c961acc3ba8d5e877dbbbcee8167c9b5ec4bfe7faca", checked := Tryz.checked }
namespace Rows
def none {H : Type} : Left H := { results := [], args := [] }

/- WHAT THE LISTED PACKAGE-LEVEL VARIABLES READ AS WHEN THE CALL BEGINS. Each datum BY PROGRAM (the guide's laid-datum.mjs) off the statement by which the dump's own 'gosem.cut.vars' lays the variable. In a bare row this is a premise. The card (YtbgflifmanjpjaaGreatDoorCards.lean) ties it to the program's text. -/
def laid_math_bits_deBruijn32tab {H : Type} : DataW H := .agg [.lit (.int .u8 0), .lit (.int .u8 1), .lit (.int .u8 28), .lit (.int .u8 2), .lit (.int .u8 29), .lit (.int .u8 14), .lit (.int .u8 24), .lit (.int .u8 3), .lit (.int .u8 30), .lit (.int .u8 22), .lit (.int .u8 20), .lit (.int .u8 15), .lit (.int .u8 25), .lit (.int .u8 17), .lit (.int .u8 4), .lit (.int .u8 8), .lit (.int .u8 31), .lit (.int .u8 27), .lit (.int .u8 13), .lit (.int .u8 23), .lit (.int .u8 21), .lit (.int .u8 19), .lit (.int .u8 16), .lit (.int .u8 7), .lit (.int .u8 26), .lit (.int .u8 12), .lit (.int .u8 18), .lit (.int .u8 6), .lit (.int .u8 11), .lit (.int .u8 5), .lit (.int .u8 10), .lit (.int .u8 9)]
def laid_math_bits_deBruijn64tab {H : Type} : DataW H := .agg [.lit (.int .u8 0), .lit (.int .u8 1), .lit (.int .u8 56), .lit (.int .u8 2), .lit (.int .u8 57), .lit (.int .u8 49), .lit (.int .u8 28), .lit (.int .u8 3), .lit (.int .u8 61), .lit (.int .u8 58), .lit (.int .u8 42), .lit (.int .u8 50), .lit (.int .u8 38), .lit (.int .u8 29), .lit (.int .u8 17), .lit (.int .u8 4), .lit (.int .u8 62), .lit (.int .u8 47), .lit (.int .u8 59), .lit (.int .u8 36), .lit (.int .u8 45), .lit (.int .u8 43), .lit (.int .u8 51), .lit (.int .u8 22), .lit (.int .u8 53), .lit (.int .u8 39), .lit (.int .u8 33), .lit (.int .u8 30), .lit (.int .u8 24), .lit (.int .u8 18), .lit (.int .u8 12), .lit (.int .u8 5), .lit (.int .u8 63), .lit (.int .u8 55), .lit (.int .u8 48), .lit (.int .u8 27), .lit (.int .u8 60), .lit (.int .u8 41), .lit (.int .u8 37), .lit (.int .u8 16), .lit (.int .u8 46), .lit (.int .u8 35), .lit (.int .u8 44), .lit (.int .u8 21), .lit (.int .u8 52), .lit (.int .u8 32), .lit (.int .u8 23), .lit (.int .u8 11), .lit (.int .u8 54), .lit (.int .u8 26), .lit (.int .u8 40), .lit (.int .u8 15), .lit (.int .u8 34), .lit (.int .u8 20), .lit (.int .u8 31), .lit (.int .u8 10), .lit (.int .u8 25), .lit (.int .u8 14), .lit (.int .u8 19), .lit (.int .u8 9), .lit (.int .u8 13), .lit (.int .u8 8), .lit (.int .u8 7), .lit (.int .u8 6)]
def laid_internal_strconv_uint64pow10 {H : Type} : DataW H := .agg [.lit (.int .u64 1), .lit (.int .u64 10), .lit (.int .u64 100), .lit (.int .u64 1000), .lit (.int .u64 10000), .lit (.int .u64 100000), .lit (.int .u64 1000000), .lit (.int .u64 10000000), .lit (.int .u64 100000000), .lit (.int .u64 1000000000), .lit (.int .u64 10000000000), .lit (.int .u64 100000000000), .lit (.int .u64 1000000000000), .lit (.int .u64 10000000000000), .lit (.int .u64 100000000000000), .lit (.int .u64 1000000000000000), .lit (.int .u64 10000000000000000), .lit (.int .u64 100000000000000000), .lit (.int .u64 1000000000000000000), .lit (.int .u64 10000000000000000000)]
def laid_unicode_utf8_acceptRanges {H : Type} : DataW H := .agg [.agg [.lit (.int .u8 128), .lit (.int .u8 191)], .agg [.lit (.int .u8 160), .lit (.int .u8 191)], .agg [.lit (.int .u8 128), .lit (.int .u8 159)], .agg [.lit (.int .u8 144), .lit (.int .u8 191)], .agg [.lit (.int .u8 128), .lit (.int .u8 143)], .agg [.lit (.int .u8 0), .lit (.int .u8 0)], .agg [.lit (.int .u8 0), .lit (.int .u8 0)], .agg [.lit (.int .u8 0), .lit (.int .u8 0)], .agg [.lit (.int .u8 0), .lit (.int .u8 0)], .agg [.lit (.int .u8 0), .lit (.int .u8 0)], .agg [.lit (.int .u8 0), .lit (.int .u8 0)], .agg [.lit (.int .u8 0), .lit (.int .u8 0)], .agg [.lit (.int .u8 0), .lit (.int .u8 0)], .agg [.lit (.int .u8 0), .lit (.int .u8 0)], .agg [.lit (.int .u8 0), .lit (.int .u8 0)], .agg [.lit (.int .u8 0), .lit (.int .u8 0)]]
def laid_strconv_ErrRange {H : Type} : DataW H := .iface "*errors.errorString" (.ptr (.agg [.lit (.string [118, 97, 108, 117, 101, 32, 111, 117, 116, 32, 111, 102, 32, 114, 97, 110, 103, 101])]))
def laid_strconv_ErrSyntax {H : Type} : DataW H := .iface "*errors.errorString" (.ptr (.agg [.lit (.string [105, 110, 118, 97, 108, 105, 100, 32, 115, 121, 110, 116, 97, 120])]))
/-- One of Go's own tables, pinned by name: the form's constant. -/
def laid_unicode_utf8_first : DataW Unit := Go.Pinned.utf8First
def laid_mizzen_funcs_names {H : Type} : DataW H := .agg [.lit (.string [97, 100, 100]), .lit (.string [97, 110, 100]), .lit (.string [100, 101, 102, 97, 117, 108, 116]), .lit (.string [100, 105, 99, 116]), .lit (.string [101, 113]), .lit (.string [103, 101, 116]), .lit (.string [104, 97, 115]), .lit (.string [105, 110, 100, 101, 110, 116]), .lit (.string [105, 110, 116]), .lit (.string [106, 111, 105, 110]), .lit (.string [107, 101, 121, 115]), .lit (.string [108, 101, 110]), .lit (.string [108, 105, 115, 116]), .lit (.string [108, 111, 119, 101, 114]), .lit (.string [108, 116]), .lit (.string [109, 117, 108]), .lit (.string [110, 101]), .lit (.string [110, 105, 110, 100, 101, 110, 116]), .lit (.string [110, 111, 116]), .lit (.string [111, 114]), .lit (.string [112, 114, 105, 110, 116]), .lit (.string [113, 117, 111, 116, 101]), .lit (.string [114, 101, 113, 117, 105, 114, 101, 100]), .lit (.string [115, 117, 98]), .lit (.string [116, 101, 114, 110, 97, 114, 121]), .lit (.string [116, 111, 83, 116, 114, 105, 110, 103]), .lit (.string [116, 111, 89, 97, 109, 108]), .lit (.string [116, 114, 105, 109]), .lit (.string [117, 112, 112, 101, 114])]
def laid_mizzen_object_order {H : Type} : DataW H := .agg [.lit (.string [78, 97, 109, 101, 115, 112, 97, 99, 101]), .lit (.string [83, 101, 99, 114, 101, 116]), .lit (.string [67, 111, 110, 102, 105, 103, 77, 97, 112]), .lit (.string [86, 111, 108, 117, 109, 101]), .lit (.string [65, 99, 99, 111, 117, 110, 116]), .lit (.string [82, 111, 108, 101]), .lit (.string [83, 101, 114, 118, 105, 99, 101]), .lit (.string [68, 101, 112, 108, 111, 121, 109, 101, 110, 116]), .lit (.string [74, 111, 98]), .lit (.string [73, 110, 103, 114, 101, 115, 115])]

/-- 'mizzenlaw11.ValuesDots': WHATEVER THE INPUT: true; the input reads as it did. -/
def valuesDotsSpec : ChangeSpec := { name := "valuesDots", fn := fun _ => fun
  | [d1, d2, d3] => { results := [.lit (.bool true)], args := [d1, d2, d3] }
  | _ => none }
def valuesDotsRow : OpenClaim := { program := "ytbgflifmanjpjaagreatdoor", sum := "d42ea24053d1db28ae101c961acc3ba8d5e877dbbbcee8167c9b5ec4bfe7faca", func := "mizzen/mizzenlaw11.ValuesDots", spec := "valuesDots", inPlace := ["internal/bytealg.abigen_runtime_cmpstring", "slices.overlaps[mizzen/api.Pair]", "internal/bytealg.IndexByteString", "internal/bytealg.IndexString", "internal/bytealg.CountString", "internal/abi.NoEscape"], unfollowed := true, recurses := true, named := ["internal/bytealg.MaxLen", "unicode/utf8.first", "unicode/utf8.acceptRanges", "strconv.ErrSyntax", "strconv.ErrRange", "internal/strconv.uint64pow10", "math/bits.deBruijn32tab", "math/bits.deBruijn64tab"], loops := true, apart := false, laid := [("math/bits.deBruijn32tab", laid_math_bits_deBruijn32tab), ("math/bits.deBruijn64tab", laid_math_bits_deBruijn64tab), ("internal/strconv.uint64pow10", laid_internal_strconv_uint64pow10), ("unicode/utf8.acceptRanges", laid_unicode_utf8_acceptRanges), ("strconv.ErrRange", laid_strconv_ErrRange), ("strconv.ErrSyntax", laid_strconv_ErrSyntax), ("unicode/utf8.first", laid_unicode_utf8_first)] }
def ValuesDotsSaid : Prop := valuesDotsRow.holds Tryz.pinned (OpenSpec.ofChange valuesDotsSpec)

/-- ITS FALSE NEIGHBOUR: 'it returns false'. Refute it at one input. -/
def valuesDotsWrong : ChangeSpec := { name := "valuesDots", fn := fun _ => fun
  | [d1, d2, d3] => { results := [.lit (.bool false)], args := [d1, d2, d3] }
  | _ => none }
def ValuesDotsWrongFalsely : Prop := valuesDotsRow.holds Tryz.pinned (OpenSpec.ofChange valuesDotsWrong)

/-- 'mizzenlaw10.ChartMakes': WHATEVER THE INPUT: true; the input reads as it did. -/
def chartMakesSpec : ChangeSpec := { name := "chartMakes", fn := fun _ => fun
  | [d1, d2] => { results := [.lit (.bool true)], args := [d1, d2] }
  | _ => none }
def chartMakesRow : OpenClaim := { program := "ytbgflifmanjpjaagreatdoor", sum := "d42ea24053d1db28ae101c961acc3ba8d5e877dbbbcee8167c9b5ec4bfe7faca", func := "mizzen/mizzenlaw10.ChartMakes", spec := "chartMakes", inPlace := ["internal/bytealg.CountString", "internal/bytealg.IndexByteString", "internal/bytealg.IndexString", "internal/bytealg.abigen_runtime_cmpstring", "slices.overlaps[mizzen/api.Pair]", "internal/abi.NoEscape", "internal/bytealg.MakeNoZero"], unfollowed := true, recurses := true, named := ["unicode/utf8.first", "unicode/utf8.acceptRanges", "internal/bytealg.MaxLen", "strconv.ErrSyntax", "strconv.ErrRange", "internal/strconv.uint64pow10", "math/bits.deBruijn32tab", "math/bits.deBruijn64tab", "mizzen/funcs.names"], apart := false, laid := [("math/bits.deBruijn32tab", laid_math_bits_deBruijn32tab), ("math/bits.deBruijn64tab", laid_math_bits_deBruijn64tab), ("internal/strconv.uint64pow10", laid_internal_strconv_uint64pow10), ("unicode/utf8.acceptRanges", laid_unicode_utf8_acceptRanges), ("strconv.ErrRange", laid_strconv_ErrRange), ("strconv.ErrSyntax", laid_strconv_ErrSyntax), ("mizzen/funcs.names", laid_mizzen_funcs_names), ("unicode/utf8.first", laid_unicode_utf8_first)] }
def ChartMakesSaid : Prop := chartMakesRow.holds Tryz.pinned (OpenSpec.ofChange chartMakesSpec)

/-- ITS FALSE NEIGHBOUR: 'it returns false'. Refute it at one input. -/
def chartMakesWrong : ChangeSpec := { name := "chartMakes", fn := fun _ => fun
  | [d1, d2] => { results := [.lit (.bool false)], args := [d1, d2] }
  | _ => none }
def ChartMakesWrongFalsely : Prop := chartMakesRow.holds Tryz.pinned (OpenSpec.ofChange chartMakesWrong)

/-- 'mizzenlaw10.ChartRuns': WHATEVER THE INPUT: true; the input reads as it did. -/
def chartRunsSpec : ChangeSpec := { name := "chartRuns", fn := fun _ => fun
  | [d1, d2] => { results := [.lit (.bool true)], args := [d1, d2] }
  | _ => none }
def chartRunsRow : OpenClaim := { program := "ytbgflifmanjpjaagreatdoor", sum := "d42ea24053d1db28ae101c961acc3ba8d5e877dbbbcee8167c9b5ec4bfe7faca", func := "mizzen/mizzenlaw10.ChartRuns", spec := "chartRuns", inPlace := ["internal/bytealg.CountString", "internal/bytealg.IndexByteString", "internal/bytealg.IndexString", "internal/bytealg.abigen_runtime_cmpstring", "slices.overlaps[mizzen/api.Pair]", "internal/abi.NoEscape", "internal/bytealg.MakeNoZero"], unfollowed := true, recurses := true, named := ["unicode/utf8.first", "unicode/utf8.acceptRanges", "internal/bytealg.MaxLen", "strconv.ErrSyntax", "strconv.ErrRange", "internal/strconv.uint64pow10", "math/bits.deBruijn32tab", "math/bits.deBruijn64tab", "mizzen/funcs.names"], loops := true, apart := false, laid := [("math/bits.deBruijn32tab", laid_math_bits_deBruijn32tab), ("math/bits.deBruijn64tab", laid_math_bits_deBruijn64tab), ("internal/strconv.uint64pow10", laid_internal_strconv_uint64pow10), ("unicode/utf8.acceptRanges", laid_unicode_utf8_acceptRanges), ("strconv.ErrRange", laid_strconv_ErrRange), ("strconv.ErrSyntax", laid_strconv_ErrSyntax), ("mizzen/funcs.names", laid_mizzen_funcs_names), ("unicode/utf8.first", laid_unicode_utf8_first)] }
def ChartRunsSaid : Prop := chartRunsRow.holds Tryz.pinned (OpenSpec.ofChange chartRunsSpec)

/-- ITS FALSE NEIGHBOUR: 'it returns false'. Refute it at one input. -/
def chartRunsWrong : ChangeSpec := { name := "chartRuns", fn := fun _ => fun
  | [d1, d2] => { results := [.lit (.bool false)], args := [d1, d2] }
  | _ => none }
def ChartRunsWrongFalsely : Prop := chartRunsRow.holds Tryz.pinned (OpenSpec.ofChange chartRunsWrong)

/-- 'mizzenlaw13.RenderReads': WHATEVER THE INPUT: true; the input reads as it did. -/
def renderReadsSpec : ChangeSpec := { name := "renderReads", fn := fun _ => fun
  | [d] => { results := [.lit (.bool true)], args := [d] }
  | _ => none }
def renderReadsRow : OpenClaim := { program := "ytbgflifmanjpjaagreatdoor", sum := "d42ea24053d1db28ae101c961acc3ba8d5e877dbbbcee8167c9b5ec4bfe7faca", func := "mizzen/mizzenlaw13.RenderReads", spec := "renderReads", inPlace := ["internal/bytealg.CountString", "internal/bytealg.IndexByteString", "internal/bytealg.IndexString", "internal/bytealg.abigen_runtime_cmpstring", "slices.overlaps[mizzen/api.Pair]", "internal/abi.NoEscape", "internal/bytealg.MakeNoZero", "slices.overlaps[mizzen/api.Object]"], unfollowed := true, recurses := true, named := ["unicode/utf8.first", "unicode/utf8.acceptRanges", "internal/bytealg.MaxLen", "strconv.ErrSyntax", "strconv.ErrRange", "internal/strconv.uint64pow10", "math/bits.deBruijn32tab", "math/bits.deBruijn64tab", "mizzen/funcs.names", "mizzen/object.order"], apart := false, laid := [("math/bits.deBruijn32tab", laid_math_bits_deBruijn32tab), ("math/bits.deBruijn64tab", laid_math_bits_deBruijn64tab), ("internal/strconv.uint64pow10", laid_internal_strconv_uint64pow10), ("unicode/utf8.acceptRanges", laid_unicode_utf8_acceptRanges), ("strconv.ErrRange", laid_strconv_ErrRange), ("strconv.ErrSyntax", laid_strconv_ErrSyntax), ("mizzen/object.order", laid_mizzen_object_order), ("mizzen/funcs.names", laid_mizzen_funcs_names), ("unicode/utf8.first", laid_unicode_utf8_first)] }
def RenderReadsSaid : Prop := renderReadsRow.holds Tryz.pinned (OpenSpec.ofChange renderReadsSpec)

/-- ITS FALSE NEIGHBOUR: 'it returns false'. Refute it at one input. -/
def renderReadsWrong : ChangeSpec := { name := "renderReads", fn := fun _ => fun
  | [d] => { results := [.lit (.bool false)], args := [d] }
  | _ => none }
def RenderReadsWrongFalsely : Prop := renderReadsRow.holds Tryz.pinned (OpenSpec.ofChange renderReadsWrong)

/- THE SECOND FORM. 'bulk': how many values and letters a reading holds, each counted each time it is reached (what is shared counts as often as it is met; a slice's spare places count too). A statement '..UptoSaid' is the law's where the arguments, and the package variables that the reading takes, are together of bulk at most 1048576: NARROWER than '..Said'. Prove '..Said' where nothing that the law and all that it calls make is longer than what came in: it says more and counts as full. Else prove '..UptoSaid'. A law counts once. -/
mutual
def uptoBulk {H : Type} : DataW H → Nat
  | .lit (.string bytes) => bytes.length + 1
  | .lit _ => 1
  | .nil => 1
  | .ptr d => uptoBulk d + 1
  | .slice elems spare => uptoBulkAll elems + uptoBulkAll spare + 1
  | .agg parts => uptoBulkAll parts + 1
  | .iface _ d => uptoBulk d + 1
  | .map entries => uptoBulkEntries entries + 1
  | .held _ => 1
def uptoBulkAll {H : Type} : List (DataW H) → Nat
  | [] => 0
  | d :: r => uptoBulk d + uptoBulkAll r
def uptoBulkEntries {H : Type} : List (Lit × DataW H) → Nat
  | [] => 0
  | x :: r => uptoBulkEntry x + uptoBulkEntries r
def uptoBulkEntry {H : Type} : Lit × DataW H → Nat
  | (.string bytes, d) => bytes.length + uptoBulk d + 1
  | (_, d) => uptoBulk d + 1
 end
def uptoSmall : (H : Type) → List (DataW H) → Bool := fun _ ds => decide (uptoBulkAll ds ≤ 1048576)
def OpenSpec.upto (s : _root_.Go.ChangeSpec) : _root_.Go.OpenSpec := { _root_.Go.OpenSpec.ofChange s with cond := some uptoSmall }

/-- 'mizzenlaw11.ValuesDots', WHERE WHAT IT READS IS OF BULK AT MOST 1048576: true; the input reads as it did. -/
def valuesDotsUptoRow : OpenClaim := { program := "ytbgflifmanjpjaagreatdoor", sum := "d42ea24053d1db28ae101c961acc3ba8d5e877dbbbcee8167c9b5ec4bfe7faca", func := "mizzen/mizzenlaw11.ValuesDots", spec := "valuesDots", inPlace := ["internal/bytealg.abigen_runtime_cmpstring", "slices.overlaps[mizzen/api.Pair]", "internal/bytealg.IndexByteString", "internal/bytealg.IndexString", "internal/bytealg.CountString", "internal/abi.NoEscape"], unfollowed := true, recurses := true, named := ["internal/bytealg.MaxLen", "unicode/utf8.first", "unicode/utf8.acceptRanges", "strconv.ErrSyntax", "strconv.ErrRange", "internal/strconv.uint64pow10", "math/bits.deBruijn32tab", "math/bits.deBruijn64tab"], loops := true, apart := false, laid := [("math/bits.deBruijn32tab", laid_math_bits_deBruijn32tab), ("math/bits.deBruijn64tab", laid_math_bits_deBruijn64tab), ("internal/strconv.uint64pow10", laid_internal_strconv_uint64pow10), ("unicode/utf8.acceptRanges", laid_unicode_utf8_acceptRanges), ("strconv.ErrRange", laid_strconv_ErrRange), ("strconv.ErrSyntax", laid_strconv_ErrSyntax), ("unicode/utf8.first", laid_unicode_utf8_first)], narrowed := true }
def ValuesDotsUptoSaid : Prop := valuesDotsUptoRow.holds Tryz.pinned (OpenSpec.upto valuesDotsSpec)

/-- 'mizzenlaw10.ChartMakes', WHERE WHAT IT READS IS OF BULK AT MOST 1048576: true; the input reads as it did. -/
def chartMakesUptoRow : OpenClaim := { program := "ytbgflifmanjpjaagreatdoor", sum := "d42ea24053d1db28ae101c961acc3ba8d5e877dbbbcee8167c9b5ec4bfe7faca", func := "mizzen/mizzenlaw10.ChartMakes", spec := "chartMakes", inPlace := ["internal/bytealg.CountString", "internal/bytealg.IndexByteString", "internal/bytealg.IndexString", "internal/bytealg.abigen_runtime_cmpstring", "slices.overlaps[mizzen/api.Pair]", "internal/abi.NoEscape", "internal/bytealg.MakeNoZero"], unfollowed := true, recurses := true, named := ["unicode/utf8.first", "unicode/utf8.acceptRanges", "internal/bytealg.MaxLen", "strconv.ErrSyntax", "strconv.ErrRange", "internal/strconv.uint64pow10", "math/bits.deBruijn32tab", "math/bits.deBruijn64tab", "mizzen/funcs.names"], apart := false, laid := [("math/bits.deBruijn32tab", laid_math_bits_deBruijn32tab), ("math/bits.deBruijn64tab", laid_math_bits_deBruijn64tab), ("internal/strconv.uint64pow10", laid_internal_strconv_uint64pow10), ("unicode/utf8.acceptRanges", laid_unicode_utf8_acceptRanges), ("strconv.ErrRange", laid_strconv_ErrRange), ("strconv.ErrSyntax", laid_strconv_ErrSyntax), ("mizzen/funcs.names", laid_mizzen_funcs_names), ("unicode/utf8.first", laid_unicode_utf8_first)], narrowed := true }
def ChartMakesUptoSaid : Prop := chartMakesUptoRow.holds Tryz.pinned (OpenSpec.upto chartMakesSpec)

/-- 'mizzenlaw10.ChartRuns', WHERE WHAT IT READS IS OF BULK AT MOST 1048576: true; the input reads as it did. -/
def chartRunsUptoRow : OpenClaim := { program := "ytbgflifmanjpjaagreatdoor", sum := "d42ea24053d1db28ae101c961acc3ba8d5e877dbbbcee8167c9b5ec4bfe7faca", func := "mizzen/mizzenlaw10.ChartRuns", spec := "chartRuns", inPlace := ["internal/bytealg.CountString", "internal/bytealg.IndexByteString", "internal/bytealg.IndexString", "internal/bytealg.abigen_runtime_cmpstring", "slices.overlaps[mizzen/api.Pair]", "internal/abi.NoEscape", "internal/bytealg.MakeNoZero"], unfollowed := true, recurses := true, named := ["unicode/utf8.first", "unicode/utf8.acceptRanges", "internal/bytealg.MaxLen", "strconv.ErrSyntax", "strconv.ErrRange", "internal/strconv.uint64pow10", "math/bits.deBruijn32tab", "math/bits.deBruijn64tab", "mizzen/funcs.names"], loops := true, apart := false, laid := [("math/bits.deBruijn32tab", laid_math_bits_deBruijn32tab), ("math/bits.deBruijn64tab", laid_math_bits_deBruijn64tab), ("internal/strconv.uint64pow10", laid_internal_strconv_uint64pow10), ("unicode/utf8.acceptRanges", laid_unicode_utf8_acceptRanges), ("strconv.ErrRange", laid_strconv_ErrRange), ("strconv.ErrSyntax", laid_strconv_ErrSyntax), ("mizzen/funcs.names", laid_mizzen_funcs_names), ("unicode/utf8.first", laid_unicode_utf8_first)], narrowed := true }
def ChartRunsUptoSaid : Prop := chartRunsUptoRow.holds Tryz.pinned (OpenSpec.upto chartRunsSpec)

/-- 'mizzenlaw13.RenderReads', WHERE WHAT IT READS IS OF BULK AT MOST 1048576: true; the input reads as it did. -/
def renderReadsUptoRow : OpenClaim := { program := "ytbgflifmanjpjaagreatdoor", sum := "d42ea24053d1db28ae101c961acc3ba8d5e877dbbbcee8167c9b5ec4bfe7faca", func := "mizzen/mizzenlaw13.RenderReads", spec := "renderReads", inPlace := ["internal/bytealg.CountString", "internal/bytealg.IndexByteString", "internal/bytealg.IndexString", "internal/bytealg.abigen_runtime_cmpstring", "slices.overlaps[mizzen/api.Pair]", "internal/abi.NoEscape", "internal/bytealg.MakeNoZero", "slices.overlaps[mizzen/api.Object]"], unfollowed := true, recurses := true, named := ["unicode/utf8.first", "unicode/utf8.acceptRanges", "internal/bytealg.MaxLen", "strconv.ErrSyntax", "strconv.ErrRange", "internal/strconv.uint64pow10", "math/bits.deBruijn32tab", "math/bits.deBruijn64tab", "mizzen/funcs.names", "mizzen/object.order"], apart := false, laid := [("math/bits.deBruijn32tab", laid_math_bits_deBruijn32tab), ("math/bits.deBruijn64tab", laid_math_bits_deBruijn64tab), ("internal/strconv.uint64pow10", laid_internal_strconv_uint64pow10), ("unicode/utf8.acceptRanges", laid_unicode_utf8_acceptRanges), ("strconv.ErrRange", laid_strconv_ErrRange), ("strconv.ErrSyntax", laid_strconv_ErrSyntax), ("mizzen/object.order", laid_mizzen_object_order), ("mizzen/funcs.names", laid_mizzen_funcs_names), ("unicode/utf8.first", laid_unicode_utf8_first)], narrowed := true }
def RenderReadsUptoSaid : Prop := renderReadsUptoRow.holds Tryz.pinned (OpenSpec.upto renderReadsSpec)

end Rows
end Go.Proofs.YtbgflifmanjpjaaGreatDoor
