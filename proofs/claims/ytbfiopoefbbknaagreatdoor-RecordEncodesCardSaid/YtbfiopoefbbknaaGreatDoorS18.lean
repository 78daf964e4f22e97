/-
  The texts that the claim wants, one behind the other: part 18.
-/
import Derived.Test.YtbfiopoefbbknaaGreatDoorS17
import Derived.Test.YtbfiopoefbbknaaGreatDoorRows
import Derived.Test.YtbfiopoefbbknaaGreatDoorProg
import Derived.Test.YtbfiopoefbbknaaGreatDoorChecked
import Derived.KernelRfl
set_option linter.unusedSimpArgs false
set_option linter.unusedVariables false
namespace Go.Proofs.YtbfiopoefbbknaaGreatDoor
open Go.ChangeShapes Go.WideShapes Go.ChangeAt Go.RowKit Go.Deep
theorem own : ownKnob Tryz.prog.godebug = none := by kernel_rfl
theorem laidOut : laidOutB Tryz.prog = true := by kernel_rfl
theorem cellsS : Tryz.prog.cellsOf 9 = 1 := by kernel_rfl
theorem reach47 : reachBytes ≤ 140737488355328 := by decide
theorem str_wt {H : Type} {s : ByteArray} (h : WtOk (H := H) Tryz.prog 9 (.lit (.string s.data.toList))) : s.size ≤ 140737488355328 := by
 have := h s.data.toList.length (by simp [DataW.weights])
 have h2 := reach47
 have e : s.data.toList.length = s.size := by simp
 omega
theorem wt_arg {H : Type} {ts : List TypeId} {ds : List (DataW H)} (h : (DataW.weightsEach Tryz.prog ts ds).all (· ≤ reachBytes) = true) {j : Nat} {t : TypeId} {d : DataW H} (ht : ts[j]? = some t) (hd : ds[j]? = some d) : WtOk Tryz.prog t d := fun q hq => by
 have := List.all_eq_true.1 h q (DataW.weights_mem_each ht hd q hq)
 simpa using this
def setG (h : Array Obj) (g : Nat) (l : List Value) : Array Obj := h.modify g fun
 | .cells _ t frozen => .cells l.toArray t frozen
 | o => o
end Go.Proofs.YtbfiopoefbbknaaGreatDoor
namespace Go.Proofs.YtbfiopoefbbknaaGreatDoor
abbrev gi_acceptRanges : Nat := 5
abbrev gi_first : Nat := 4
end Go.Proofs.YtbfiopoefbbknaaGreatDoor
namespace Go.Proofs.YtbfiopoefbbknaaGreatDoor
open Go.ChangeShapes Go.WideShapes Go.ChangeAt Go.RowKit Go.Deep
def pinV : DataW Unit → List Value
 | .agg l => l.map fun
  | .lit (.int k z) => .int k z
  | _ => undef
 | _ => []
def pinV2 : DataW Unit → List Value
 | .agg l => l.flatMap pinV
 | _ => []
noncomputable def laidHeap0 (os : Os) : Array Obj := setG (setG (setG (World.holding Tryz.prog os ⟨#[], #[], []⟩).heap gi_deBruijn32tab gv_deBruijn32tab) gi_deBruijn64tab gv_deBruijn64tab) gi_uint64pow10 gv_uint64pow10
noncomputable def laidHeap (os : Os) : Array Obj := setG (setG (laidHeap0 os) gi_first (pinV Rows.laid_unicode_utf8_first)) gi_acceptRanges (pinV2 Rows.laid_unicode_utf8_acceptRanges)
noncomputable def laidWorld (os : Os) : World :=
 { World.holding Tryz.prog os ⟨#[], #[], []⟩ with heap := setG (setG (laidHeap os) gi_ErrRange [.iface 216 (.pointer (some ⟨(laidHeap os).size, 0, none⟩))]) gi_ErrSyntax [.iface 216 (.pointer (some ⟨(laidHeap os).size + 1, 0, none⟩))]
    ++ #[.cells #[.string ⟨#[118, 97, 108, 117, 101, 32, 111, 117, 116, 32, 111, 102, 32, 114, 97, 110, 103, 101]⟩] 218 (0, 0), .cells #[.string ⟨#[105, 110, 118, 97, 108, 105, 100, 32, 115, 121, 110, 116, 97, 120]⟩] 218 (0, 0)] }
theorem RelPs.one {σ : Sg} {a : Value} {x : AV} (h : RelP σ a x) : RelPs σ [a] [x] := by
 refine ⟨rfl, fun j v w hv hu => ?_⟩
 rcases j with _ | j <;> simp at hv hu
 subst hv hu; exact h
end Go.Proofs.YtbfiopoefbbknaaGreatDoor
/-
 Values and lists of texts as arguments.
-/
namespace Go.Proofs.YtbfiopoefbbknaaGreatDoor
open Go.ChangeShapes Go.WideShapes Go.ChangeAt Go.RowKit Go.Deep
theorem cellsI : Tryz.prog.cellsOf 3 = 1 := by kernel_rfl
theorem okWide_structR {P : Program} {w : World} {r : Reach} {base : Nat} {t : TypeId} {v : Value} {fs : Array Field} (ht : P.underlying t = some (.struct fs)) (h : Value.okWide P w r base t v) : ∃ cs : Array Value, v = .agg cs := by
 simp only [Value.okWide, ht] at h
 obtain ⟨cs, h1, _⟩ := h
 exact ⟨cs, h1⟩
end Go.Proofs.YtbfiopoefbbknaaGreatDoor
namespace Go.Proofs.YtbfiopoefbbknaaGreatDoor
set_option maxRecDepth 100000
def b_record_Encode : ACode :=
 .seq (gQ [gP 1 0, ⟨gO, .alloc 2 gZ⟩]) (.seq (gQ [⟨gO, .mov 3 (.k (.fn 57 []))⟩]) (.seq (gQ [gM 4 3, gF 5 4 1, gL 6 5, gC 7 40 [.s 6], ⟨gO, .call (some 8) (.s 4) [gS ⟨#[99, 104, 97, 114, 116]⟩, .s 7]⟩, gM 9 3, gF 10 3 1, gL 11 10, gC 12 58 [.s 11], ⟨gO, .call (some 13) (.s 9) [gS ⟨#[99, 111, 109, 109, 97, 110, 100]⟩, .s 12]⟩, gM 14 3, gF 15 6 1, gL 16 15, gC 17 40 [.s 16], ⟨gO, .call (some 18) (.s 14) [gS ⟨#[109, 97, 110, 105, 102, 101, 115, 116]⟩, .s 17]⟩, gM 19 3, gF 20 0 1, gL 21 20, gC 22 40 [.s 21], ⟨gO, .call (some 23) (.s 19) [gS ⟨#[114, 101, 108, 101, 97, 115, 101]⟩, .s 22]⟩, gM 24 3, gF 25 1 1, gL 26 25, gC 27 58 [.s 26], ⟨gO, .call (some 28) (.s 24) [gS ⟨#[114, 101, 118, 105, 115, 105, 111, 110]⟩, .s 27]⟩, gM 29 3, gF 30 2 1, gL 31 30, gC 32 58 [.s 31], ⟨gO, .call (some 33) (.s 29) [gS ⟨#[115, 116, 97, 116, 117, 115]⟩, .s 32]⟩, gM 34 3, gF 35 5 1, gL 36 35, gC 37 40 [.s 36], ⟨gO, .call (some 38) (.s 34) [gS ⟨#[118, 97, 108, 117, 101, 115]⟩, .s 37]⟩, ⟨gO, .bsl 39 7 7 [.str ⟨#[]⟩, .int .i64 0, .bool false, .int .i64 0, .str ⟨#[]⟩, .lst .nil 6 [], .lst .nil 7 [], .str ⟨#[]⟩, .int .i64 0, .bool false, .int .i64 0, .str ⟨#[]⟩, .lst .nil 6 [], .lst .nil 7 [], .str ⟨#[]⟩, .int .i64 0, .bool false, .int .i64 0, .str ⟨#[]⟩, .lst .nil 6 [], .lst .nil 7 [], .str ⟨#[]⟩, .int .i64 0, .bool false, .int .i64 0, .str ⟨#[]⟩, .lst .nil 6 [], .lst .nil 7 [], .str ⟨#[]⟩, .int .i64 0, .bool false, .int .i64 0, .str ⟨#[]⟩, .lst .nil 6 [], .lst .nil 7 [], .str ⟨#[]⟩, .int .i64 0, .bool false, .int .i64 0, .str ⟨#[]⟩, .lst .nil 6 [], .lst .nil 7 [], .str ⟨#[]⟩, .int .i64 0, .bool false, .int .i64 0, .str ⟨#[]⟩, .lst .nil 6 [], .lst .nil 7 []] [(0, 7, .s 8), (7, 7, .s 13), (14, 7, .s 18), (21, 7, .s 23), (28, 7, .s 28), (35, 7, .s 33), (42, 7, .s 38)]⟩, gC 40 35 [.s 39], gT 6 2 40]) .ret))
def a_record_Encode : AFn := ⟨1, 41, b_record_Encode, [.cell 2 6 true]⟩
theorem a_record_Encode_ok : fnAF Tryz.prog [] Tryz.f27 = some a_record_Encode := by kernel_rfl
theorem a_record_Encode_cb : callable Tryz.prog 27 = true := by kernel_rfl
def b_record_Encode_1 : ACode :=
 .seq (gQ [gP 3 1, ⟨gO, .alloc 4 [.str ⟨#[]⟩, .int .i64 0, .bool false, .int .i64 0, .str ⟨#[]⟩, .lst .nil 6 [], .lst .nil 7 []]⟩]) (.seq (gQ [gM 5 0, gA 6 6 3, ⟨gO, .build 7 [.str ⟨#[]⟩, .int .i64 0, .bool false, .int .i64 0, .str ⟨#[]⟩, .lst .nil 6 [], .lst .nil 7 []] [(0, 1, .s 5), (1, 6, .s 6)]⟩, gT 7 4 7]) .ret)
def a_record_Encode_1 : AFn := ⟨2, 8, b_record_Encode_1, [.cell 4 7 true]⟩
theorem a_record_Encode_1_ok : fnAF Tryz.prog [] Tryz.f57 = some a_record_Encode_1 := by kernel_rfl
theorem a_record_Encode_1_cb : callable Tryz.prog 57 = true := by kernel_rfl
def b_record_Decode : ACode :=
 .seq (gQ [gP 1 0, ⟨gO, .alloc 2 [.str ⟨#[]⟩, .int .i64 0, .int .i64 0, .int .i64 0, .str ⟨#[]⟩, .str ⟨#[]⟩, .str ⟨#[]⟩]⟩, gJ 3 0]) (.seq (gQ [⟨gO, .mkfn 10 59 [.s 1]⟩, gM 4 10]) (.seq (gQ [⟨gO, .mkfn 11 60 [.s 1]⟩, gM 5 11]) (.seq (gQ [gM 12 4, ⟨gO, .call (some 13) (.s 12) [gS ⟨#[114, 101, 108, 101, 97, 115, 101]⟩]⟩, gM 14 5, ⟨gO, .call (some 15) (.s 14) [gS ⟨#[114, 101, 118, 105, 115, 105, 111, 110]⟩]⟩, gM 16 5, ⟨gO, .call (some 17) (.s 16) [gS ⟨#[115, 116, 97, 116, 117, 115]⟩]⟩, gM 18 5, ⟨gO, .call (some 19) (.s 18) [gS ⟨#[99, 111, 109, 109, 97, 110, 100]⟩]⟩, gM 20 4, ⟨gO, .call (some 21) (.s 20) [gS ⟨#[99, 104, 97, 114, 116]⟩]⟩, gM 22 4, ⟨gO, .call (some 23) (.s 22) [gS ⟨#[118, 97, 108, 117, 101, 115]⟩]⟩, gM 24 4, ⟨gO, .call (some 25) (.s 24) [gS ⟨#[109, 97, 110, 105, 102, 101, 115, 116]⟩]⟩, ⟨gO, .build 26 [.str ⟨#[]⟩, .int .i64 0, .int .i64 0, .int .i64 0, .str ⟨#[]⟩, .str ⟨#[]⟩, .str ⟨#[]⟩] [(0, 1, .s 13), (1, 1, .s 15), (2, 1, .s 17), (3, 1, .s 19), (4, 1, .s 21), (5, 1, .s 23), (6, 1, .s 25)]⟩, ⟨gO, .alloc 6 [.str ⟨#[]⟩, .int .i64 0, .int .i64 0, .int .i64 0, .str ⟨#[]⟩, .str ⟨#[]⟩, .str ⟨#[]⟩]⟩, gT 7 6 26]) (.seq (gQ [gF 28 0 1, gA 29 3 28, gC 30 30 [.s 29], gM 27 30, gX 31 0 27, gX 32 1 27, gX 33 2 27, gM 7 31, gM 8 32, gM 9 33]) (.seq (.seq (gQ [gM 34 9, ⟨gO, .un 35 .not (.s 34)⟩, gM 36 35, gN 36 false 37 7, ⟨some (36, false), .off 38 0 (.s 6)⟩, ⟨some (36, false), .ld 39 1 false (.s 38)⟩, ⟨some (36, false), .bin 40 .neq false (.s 37) (.s 39)⟩, ⟨gO, .pick 41 (.s 36) (.k (.bool true)) (.s 40)⟩, gM 42 41, gN 42 false 43 8, ⟨some (42, false), .off 44 1 (.s 6)⟩, ⟨some (42, false), .ld 45 1 false (.s 44)⟩, ⟨some (42, false), .bin 46 .neq false (.s 43) (.s 45)⟩, ⟨gO, .pick 47 (.s 42) (.k (.bool true)) (.s 46)⟩, gM 48 47, ⟨some (48, false), .ld 49 7 true (.s 6)⟩, ⟨some (48, false), .call (some 50) (.k (.fn 19 [])) [.s 49]⟩, ⟨some (48, false), .un 51 .not (.s 50)⟩, ⟨gO, .pick 52 (.s 48) (.k (.bool true)) (.s 51)⟩, gM 53 52, ⟨some (53, false), .ld 54 7 true (.s 6)⟩, ⟨some (53, false), .call (some 55) (.k (.fn 27 [])) [.s 54]⟩, ⟨some (53, false), .off 56 3 (.s 1)⟩, ⟨some (53, false), .ld 57 6 true (.s 56)⟩, ⟨some (53, false), .call (some 58) (.k (.fn 61 [])) [.s 55, .s 57]⟩, ⟨some (53, false), .un 59 .not (.s 58)⟩, ⟨gO, .pick 60 (.s 53) (.k (.bool true)) (.s 59)⟩]) (.cond (.s 60) (.seq (gQ [⟨gO, .build 61 [.str ⟨#[]⟩, .int .i64 0, .int .i64 0, .int .i64 0, .str ⟨#[]⟩, .str ⟨#[]⟩, .str ⟨#[]⟩] []⟩, gT 7 2 61, gJ 3 35]) .ret) .skip)) (.seq (gQ [gA 62 7 6, gT 7 2 62, gJ 3 0]) .ret))))))
def a_record_Decode : AFn := ⟨1, 63, b_record_Decode, [.cell 2 7 true, .tmp 3]⟩
theorem a_record_Decode_ok : fnAF Tryz.prog [] Tryz.f28 = some a_record_Decode := by kernel_rfl
theorem a_record_Decode_cb : callable Tryz.prog 28 = true := by kernel_rfl
def b_record_Decode_1 : ACode :=
 .seq (gQ [⟨gO, .mov 3 (gS ⟨#[]⟩)⟩]) (.seq (gQ [gF 7 3 1, gA 8 6 7, gM 9 0, gC 10 36 [.s 8, .s 9], gM 6 10, gX 11 0 6, gX 12 1 6, ⟨gO, .alloc 4 gZ⟩, gT 6 4 11, gM 5 12]) (.seq (gQ [gF 13 3 4, gL 14 13, gM 3 14]) .ret))
def a_record_Decode_1 : AFn := ⟨1, 15, b_record_Decode_1, [.tmp 3]⟩
theorem a_record_Decode_1_ok : fnAF Tryz.prog [] Tryz.f59 = some a_record_Decode_1 := by kernel_rfl
theorem a_record_Decode_1_cb : callable Tryz.prog 59 = true := by kernel_rfl
def b_record_Decode_2 : ACode :=
 .seq (gQ [gJ 3 0]) (.seq (gQ [gF 7 3 1, gA 8 6 7, gM 9 0, gC 10 36 [.s 8, .s 9], gM 6 10, gX 11 0 6, gX 12 1 6, ⟨gO, .alloc 4 gZ⟩, gT 6 4 11, gM 5 12]) (.seq (gQ [gF 13 2 4, gL 14 13, gM 3 14]) .ret))
def a_record_Decode_2 : AFn := ⟨1, 15, b_record_Decode_2, [.tmp 3]⟩
theorem a_record_Decode_2_ok : fnAF Tryz.prog [] Tryz.f60 = some a_record_Decode_2 := by kernel_rfl
theorem a_record_Decode_2_cb : callable Tryz.prog 60 = true := by kernel_rfl
def b_law17_Light : ACode :=
 .seq (gQ [gP 1 0, ⟨gO, .mov 2 (.k (.bool false))⟩]) (.seq (gQ [gF 3 0 1, gL 4 3, gH 5 true 4, gU 6 .leq 5 200, gM 7 6, ⟨some (7, true), .off 8 4 (.s 1)⟩, ⟨some (7, true), .ld 9 1 false (.s 8)⟩, ⟨some (7, true), .len 10 true (.s 9)⟩, ⟨some (7, true), .bin 11 .leq false (.s 10) (gI 500)⟩, ⟨gO, .pick 12 (.s 7) (.s 11) (.k (.bool false))⟩, gM 13 12, ⟨some (13, true), .off 14 5 (.s 1)⟩, ⟨some (13, true), .ld 15 1 false (.s 14)⟩, ⟨some (13, true), .len 16 true (.s 15)⟩, ⟨some (13, true), .bin 17 .leq false (.s 16) (gI 2000)⟩, ⟨gO, .pick 18 (.s 13) (.s 17) (.k (.bool false))⟩, gM 19 18, ⟨some (19, true), .off 20 6 (.s 1)⟩, ⟨some (19, true), .ld 21 1 false (.s 20)⟩, ⟨some (19, true), .len 22 true (.s 21)⟩, ⟨some (19, true), .bin 23 .leq false (.s 22) (gI 4000)⟩, ⟨gO, .pick 24 (.s 19) (.s 23) (.k (.bool false))⟩, gM 2 24]) .ret)
def a_law17_Light : AFn := ⟨1, 25, b_law17_Light, [.tmp 2]⟩
theorem a_law17_Light_ok : fnAF Tryz.prog [] Tryz.f17 = some a_law17_Light := by kernel_rfl
theorem a_law17_Light_cb : callable Tryz.prog 17 = true := by kernel_rfl
def b_ref17_Right : ACode :=
 .seq (gQ [gP 1 0, ⟨gO, .mov 2 (.k (.bool false))⟩]) (.seq (gQ [gF 3 0 1, gL 4 3, gC 5 22 [.s 4], gM 6 5, ⟨some (6, true), .off 7 1 (.s 1)⟩, ⟨some (6, true), .ld 8 1 false (.s 7)⟩, ⟨some (6, true), .bin 9 .geq false (.s 8) (gI 1)⟩, ⟨gO, .pick 10 (.s 6) (.s 9) (.k (.bool false))⟩, gM 11 10, ⟨some (11, true), .off 12 1 (.s 1)⟩, ⟨some (11, true), .ld 13 1 false (.s 12)⟩, ⟨some (11, true), .bin 14 .leq false (.s 13) (gI 1000000)⟩, ⟨gO, .pick 15 (.s 11) (.s 14) (.k (.bool false))⟩, gM 16 15, ⟨some (16, true), .off 17 2 (.s 1)⟩, ⟨some (16, true), .ld 18 1 false (.s 17)⟩, ⟨some (16, true), .bin 19 .geq false (.s 18) (gI 1)⟩, ⟨gO, .pick 20 (.s 16) (.s 19) (.k (.bool false))⟩, gM 21 20, ⟨some (21, true), .off 22 2 (.s 1)⟩, ⟨some (21, true), .ld 23 1 false (.s 22)⟩, ⟨some (21, true), .bin 24 .leq false (.s 23) (gI 5)⟩, ⟨gO, .pick 25 (.s 21) (.s 24) (.k (.bool false))⟩, gM 26 25, ⟨some (26, true), .off 27 3 (.s 1)⟩, ⟨some (26, true), .ld 28 1 false (.s 27)⟩, ⟨some (26, true), .bin 29 .geq false (.s 28) (gI 1)⟩, ⟨gO, .pick 30 (.s 26) (.s 29) (.k (.bool false))⟩, gM 31 30, ⟨some (31, true), .off 32 3 (.s 1)⟩, ⟨some (31, true), .ld 33 1 false (.s 32)⟩, ⟨some (31, true), .bin 34 .leq false (.s 33) (gI 4)⟩, ⟨gO, .pick 35 (.s 31) (.s 34) (.k (.bool false))⟩, gM 36 35, ⟨some (36, true), .off 37 4 (.s 1)⟩, ⟨some (36, true), .ld 38 1 false (.s 37)⟩, ⟨some (36, true), .call (some 39) (.k (.fn 42 [])) [.s 38]⟩, ⟨gO, .pick 40 (.s 36) (.s 39) (.k (.bool false))⟩, gM 41 40, ⟨some (41, true), .off 42 5 (.s 1)⟩, ⟨some (41, true), .ld 43 1 false (.s 42)⟩, ⟨some (41, true), .call (some 44) (.k (.fn 42 [])) [.s 43]⟩, ⟨gO, .pick 45 (.s 41) (.s 44) (.k (.bool false))⟩, gM 46 45, ⟨some (46, true), .off 47 6 (.s 1)⟩, ⟨some (46, true), .ld 48 1 false (.s 47)⟩, ⟨some (46, true), .call (some 49) (.k (.fn 42 [])) [.s 48]⟩, ⟨gO, .pick 50 (.s 46) (.s 49) (.k (.bool false))⟩, gM 2 50]) .ret)
def a_ref17_Right : AFn := ⟨1, 51, b_ref17_Right, [.tmp 2]⟩
theorem a_ref17_Right_ok : fnAF Tryz.prog [] Tryz.f20 = some a_ref17_Right := by kernel_rfl
theorem a_ref17_Right_cb : callable Tryz.prog 20 = true := by kernel_rfl
def b_ref17_Name : ACode :=
 .seq (gQ [⟨gO, .mov 2 (.k (.bool false))⟩]) (.seq (.seq (gQ [gJ 3 0]) (.block 0 (.loop (.seq (.seq (gQ [gM 4 3, gM 5 0, gH 6 true 5, gV 7 .lss 4 6]) (.cond (.s 7) .skip (.exit 0))) (.seq (.block 1 (.seq (gQ [gM 10 0, gM 11 3, ⟨gO, .bidx 12 (.s 10) (.s 11)⟩, ⟨gO, gB 13 .eql (.s 12) (.k (.int .u8 47))⟩]) (.cond (.s 13) (.seq (gQ [⟨gO, .mov 2 (.k (.bool false))⟩]) .ret) .skip))) (.reg [gM 8 3, gU 9 .add 8 1, gM 3 9])))))) (.seq (gQ [gM 14 0, gC 15 50 [.s 14], gM 16 15, gN 16 true 17 0, ⟨some (16, true), .len 18 true (.s 17)⟩, ⟨some (16, true), .bin 19 .leq false (.s 18) (gI 48)⟩, ⟨gO, .pick 20 (.s 16) (.s 19) (.k (.bool false))⟩, gM 2 20]) .ret))
def a_ref17_Name : AFn := ⟨1, 21, b_ref17_Name, [.tmp 2]⟩
theorem a_ref17_Name_ok : fnAF Tryz.prog [] Tryz.f22 = some a_ref17_Name := by kernel_rfl
theorem a_ref17_Name_cb : callable Tryz.prog 22 = true := by kernel_rfl
def b_law17_awake : ACode :=
 .seq (gQ [⟨gO, .mov 0 (.k (.bool false))⟩]) (.seq (gQ [⟨gO, .call (some 1) (.k (.fn 29 [])) [gS ⟨#[119, 101, 98]⟩, gI 3]⟩, ⟨gO, .build 2 [.str ⟨#[]⟩, .str ⟨#[]⟩, .str ⟨#[]⟩] [(0, 1, gS ⟨#[82, 101, 108, 101, 97, 115, 101]⟩), (1, 1, gS ⟨#[100, 101, 102, 97, 117, 108, 116]⟩), (2, 1, gS ⟨#[119, 101, 98, 46, 118, 51]⟩)]⟩, ⟨gO, .eqs 3 false 58 (.s 1) (.s 2)⟩, gM 4 3, ⟨some (4, true), .build 5 [.str ⟨#[]⟩, .int .i64 0, .int .i64 0, .int .i64 0, .str ⟨#[]⟩, .str ⟨#[]⟩, .str ⟨#[]⟩] [(0, 1, gS ⟨#[119, 101, 98]⟩), (1, 1, gI 1), (2, 1, gI 1), (3, 1, gI 1)]⟩, ⟨some (4, true), .call (some 6) (.k (.fn 19 [])) [.s 5]⟩, ⟨gO, .pick 7 (.s 4) (.s 6) (.k (.bool false))⟩, gM 0 7]) .ret)
def a_law17_awake : AFn := ⟨0, 8, b_law17_awake, [.tmp 0]⟩
theorem a_law17_awake_ok : fnAF Tryz.prog [] Tryz.f18 = some a_law17_awake := by kernel_rfl
theorem a_law17_awake_cb : callable Tryz.prog 18 = true := by kernel_rfl
def b_record_ID : ACode :=
 .seq (gQ [⟨gO, .alloc 4 [.str ⟨#[]⟩, .str ⟨#[]⟩, .str ⟨#[]⟩]⟩]) (.seq (gQ [gM 5 0, ⟨gO, gB 6 .add (.s 5) (gS ⟨#[46, 118]⟩)⟩, gM 7 1, gC 8 62 [.s 7], gV 9 .add 6 8, ⟨gO, .build 10 [.str ⟨#[]⟩, .str ⟨#[]⟩, .str ⟨#[]⟩] [(0, 1, gS ⟨#[82, 101, 108, 101, 97, 115, 101]⟩), (1, 1, gS ⟨#[100, 101, 102, 97, 117, 108, 116]⟩), (2, 1, .s 9)]⟩, gT 3 4 10]) .ret)
def a_record_ID : AFn := ⟨2, 11, b_record_ID, [.cell 4 3 true]⟩
theorem a_record_ID_ok : fnAF Tryz.prog [] Tryz.f29 = some a_record_ID := by kernel_rfl
theorem a_record_ID_cb : callable Tryz.prog 29 = true := by kernel_rfl
def b_record_Owner : ACode :=
 .seq (gQ [gP 1 0, ⟨gO, .mov 2 (gS ⟨#[]⟩)⟩, gJ 3 0, ⟨gO, .mov 4 (.k (.bool false))⟩]) (.seq (gQ [gF 9 2 1, gL 10 9, ⟨gO, .call (some 11) (.k (.fn 63 [])) [.s 10, gS ⟨#[46, 118]⟩]⟩, gM 5 11]) (.seq (.seq (gQ [gM 12 5, gU 13 .lss 12 0]) (.cond (.s 13) (.seq (gQ [⟨gO, .mov 2 (gS ⟨#[]⟩)⟩, gJ 3 0, ⟨gO, .mov 4 (.k (.bool false))⟩]) .ret) .skip)) (.seq (gQ [gF 15 2 1, gL 16 15, gM 17 5, gU 18 .add 17 2, ⟨gO, .sub 19 true 0 (.s 16) (some (.s 18)) none⟩, gC 20 64 [.s 19], gM 14 20, gX 21 0 14, gX 22 1 14, gM 6 21, gM 7 22]) (.seq (gQ [gF 23 2 1, gL 24 23, gM 25 5, ⟨gO, .sub 26 true 0 (.s 24) none (some (.s 25))⟩, gM 8 26]) (.seq (.seq (gQ [gM 27 7, ⟨gO, .eqs 28 true 104 (.s 27) (.k (.raw Value.nilIface))⟩, gM 29 28, gN 29 false 30 6, ⟨some (29, false), .bin 31 .lss false (.s 30) (gI 1)⟩, ⟨gO, .pick 32 (.s 29) (.k (.bool true)) (.s 31)⟩, gM 33 32, gN 33 false 34 6, ⟨some (33, false), .bin 35 .gtr false (.s 34) (gI 1000000)⟩, ⟨gO, .pick 36 (.s 33) (.k (.bool true)) (.s 35)⟩, gM 37 36, gN 37 false 38 8, ⟨some (37, false), .call (some 39) (.k (.fn 21 [])) [.s 38]⟩, ⟨some (37, false), .un 40 .not (.s 39)⟩, ⟨gO, .pick 41 (.s 37) (.k (.bool true)) (.s 40)⟩, gM 42 41, gN 42 false 43 8, gN 42 false 44 6, ⟨some (42, false), .call (some 45) (.k (.fn 29 [])) [.s 43, .s 44]⟩, ⟨some (42, false), .ld 46 3 true (.s 1)⟩, ⟨some (42, false), .eqs 47 true 58 (.s 45) (.s 46)⟩, ⟨gO, .pick 48 (.s 42) (.k (.bool true)) (.s 47)⟩]) (.cond (.s 48) (.seq (gQ [⟨gO, .mov 2 (gS ⟨#[]⟩)⟩, gJ 3 0, ⟨gO, .mov 4 (.k (.bool false))⟩]) .ret) .skip)) (.seq (gQ [gM 49 8, gM 50 6, gM 2 49, gM 3 50, ⟨gO, .mov 4 (.k (.bool true))⟩]) .ret))))))
def a_record_Owner : AFn := ⟨1, 51, b_record_Owner, [.tmp 2, .tmp 3, .tmp 4]⟩
theorem a_record_Owner_ok : fnAF Tryz.prog [] Tryz.f30 = some a_record_Owner := by kernel_rfl
theorem a_record_Owner_cb : callable Tryz.prog 30 = true := by kernel_rfl
def b_record_Name : ACode :=
 .seq (gQ [⟨gO, .mov 2 (.k (.bool false))⟩]) (.seq (gQ [gM 3 0, gC 4 51 [.s 3], gM 5 4, gN 5 true 6 0, ⟨some (5, true), .call (some 7) (.k (.fn 52 [])) [.s 6, gS ⟨#[47]⟩]⟩, ⟨some (5, true), .un 8 .not (.s 7)⟩, ⟨gO, .pick 9 (.s 5) (.s 8) (.k (.bool false))⟩, gM 10 9, gN 10 true 11 0, ⟨some (10, true), .len 12 true (.s 11)⟩, ⟨some (10, true), .bin 13 .leq false (.s 12) (gI 48)⟩, ⟨gO, .pick 14 (.s 10) (.s 13) (.k (.bool false))⟩, gM 2 14]) .ret)
def a_record_Name : AFn := ⟨1, 15, b_record_Name, [.tmp 2]⟩
theorem a_record_Name_ok : fnAF Tryz.prog [] Tryz.f21 = some a_record_Name := by kernel_rfl
theorem a_record_Name_cb : callable Tryz.prog 21 = true := by kernel_rfl
def b_record_Right : ACode :=
 .seq (gQ [gP 1 0, ⟨gO, .mov 2 (.k (.bool false))⟩]) (.seq (gQ [gF 3 0 1, gL 4 3, gC 5 21 [.s 4], gM 6 5, ⟨some (6, true), .off 7 1 (.s 1)⟩, ⟨some (6, true), .ld 8 1 false (.s 7)⟩, ⟨some (6, true), .bin 9 .geq false (.s 8) (gI 1)⟩, ⟨gO, .pick 10 (.s 6) (.s 9) (.k (.bool false))⟩, gM 11 10, ⟨some (11, true), .off 12 1 (.s 1)⟩, ⟨some (11, true), .ld 13 1 false (.s 12)⟩, ⟨some (11, true), .bin 14 .leq false (.s 13) (gI 1000000)⟩, ⟨gO, .pick 15 (.s 11) (.s 14) (.k (.bool false))⟩, gM 16 15, ⟨some (16, true), .off 17 2 (.s 1)⟩, ⟨some (16, true), .ld 18 1 false (.s 17)⟩, ⟨some (16, true), .bin 19 .geq false (.s 18) (gI 1)⟩, ⟨gO, .pick 20 (.s 16) (.s 19) (.k (.bool false))⟩, gM 21 20, ⟨some (21, true), .off 22 2 (.s 1)⟩, ⟨some (21, true), .ld 23 1 false (.s 22)⟩, ⟨some (21, true), .bin 24 .leq false (.s 23) (gI 5)⟩, ⟨gO, .pick 25 (.s 21) (.s 24) (.k (.bool false))⟩, gM 26 25, ⟨some (26, true), .off 27 3 (.s 1)⟩, ⟨some (26, true), .ld 28 1 false (.s 27)⟩, ⟨some (26, true), .bin 29 .geq false (.s 28) (gI 1)⟩, ⟨gO, .pick 30 (.s 26) (.s 29) (.k (.bool false))⟩, gM 31 30, ⟨some (31, true), .off 32 3 (.s 1)⟩, ⟨some (31, true), .ld 33 1 false (.s 32)⟩, ⟨some (31, true), .bin 34 .leq false (.s 33) (gI 4)⟩, ⟨gO, .pick 35 (.s 31) (.s 34) (.k (.bool false))⟩, gM 36 35, ⟨some (36, true), .off 37 4 (.s 1)⟩, ⟨some (36, true), .ld 38 1 false (.s 37)⟩, ⟨some (36, true), .call (some 39) (.k (.fn 38 [])) [.s 38]⟩, ⟨gO, .pick 40 (.s 36) (.s 39) (.k (.bool false))⟩, gM 41 40, ⟨some (41, true), .off 42 5 (.s 1)⟩, ⟨some (41, true), .ld 43 1 false (.s 42)⟩, ⟨some (41, true), .call (some 44) (.k (.fn 38 [])) [.s 43]⟩, ⟨gO, .pick 45 (.s 41) (.s 44) (.k (.bool false))⟩, gM 46 45, ⟨some (46, true), .off 47 6 (.s 1)⟩, ⟨some (46, true), .ld 48 1 false (.s 47)⟩, ⟨some (46, true), .call (some 49) (.k (.fn 38 [])) [.s 48]⟩, ⟨gO, .pick 50 (.s 46) (.s 49) (.k (.bool false))⟩, gM 2 50]) .ret)
def a_record_Right : AFn := ⟨1, 51, b_record_Right, [.tmp 2]⟩
theorem a_record_Right_ok : fnAF Tryz.prog [] Tryz.f19 = some a_record_Right := by kernel_rfl
theorem a_record_Right_cb : callable Tryz.prog 19 = true := by kernel_rfl
end Go.Proofs.YtbfiopoefbbknaaGreatDoor
