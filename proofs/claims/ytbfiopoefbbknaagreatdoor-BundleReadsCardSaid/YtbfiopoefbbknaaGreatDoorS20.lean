/-
  The texts that the claim wants, one behind the other: part 20.
-/
import Derived.Test.YtbfiopoefbbknaaGreatDoorS19
import Derived.Test.YtbfiopoefbbknaaGreatDoorRows
import Derived.Test.YtbfiopoefbbknaaGreatDoorChecked
import Derived.KernelRfl
import Derived.Test.YtbfiopoefbbknaaGreatDoorProg
set_option linter.unusedSimpArgs false
set_option linter.unusedVariables false
namespace Go.Proofs.YtbfiopoefbbknaaGreatDoor
open Go.ChangeShapes Go.WideShapes Go.ChangeAt Go.RowKit Go.Deep
theorem own : ownKnob Tryz.prog.godebug = none := by kernel_rfl
theorem laidOut : laidOutB Tryz.prog = true := by kernel_rfl
theorem cellsS : Tryz.prog.cellsOf 9 = 1 := by kernel_rfl
theorem reach47 : reachBytes ≤ 140737488355328 := by decide
theorem str_wt {H : Type} {s : ByteArray} (h : WtOk (H := H) Tryz.prog 9 (.lit (.string s.data.toList))) : s.size ≤ 140737488355328 := by
 have := h s.data.toList.length (by simp [DataW.weights])
 have h2 := reach47
 have e : s.data.toList.length = s.size := by simp
 omega
theorem str_arg {H : Type} {enc : TypeId × Value → H} {W : World} {base : Nat} {spare : Nat → Bool} {held : Bool} {v : Value} {d : DataW H} {p : List MemPlace} (hv : ∃ s, v = .string s) (h : DataW.Trod enc Tryz.prog W base spare held 9 v d p) (hw : WtOk Tryz.prog 9 d) :
  ∃ s : ByteArray, v = .string s ∧ s.size ≤ 140737488355328 ∧ d = .lit (.string s.data.toList) := by
 obtain ⟨s, rfl⟩ := hv
 obtain ⟨fuel, hf⟩ := h
 obtain ⟨s', e, hx, _⟩ := DataW.trod_string Tryz.underlying9 hf
 injection e with e
 injection e with e
 subst e
 injection hx with hd _
 subst hd
 exact ⟨s, rfl, str_wt hw, rfl⟩
theorem wt_arg {H : Type} {ts : List TypeId} {ds : List (DataW H)} (h : (DataW.weightsEach Tryz.prog ts ds).all (· ≤ reachBytes) = true) {j : Nat} {t : TypeId} {d : DataW H} (ht : ts[j]? = some t) (hd : ds[j]? = some d) : WtOk Tryz.prog t d := fun q hq => by
 have := List.all_eq_true.1 h q (DataW.weights_mem_each ht hd q hq)
 simpa using this
def setG (h : Array Obj) (g : Nat) (l : List Value) : Array Obj := h.modify g fun
 | .cells _ t frozen => .cells l.toArray t frozen
 | o => o
end Go.Proofs.YtbfiopoefbbknaaGreatDoor
namespace Go.Proofs.YtbfiopoefbbknaaGreatDoor
set_option maxRecDepth 100000
def b_ref22_Sum : ACode :=
 .seq (gQ [⟨gO, .mov 2 (.k (.int .u64 0))⟩]) (.seq (gQ [⟨gO, .mov 3 (.k (.int .u64 14695981039346656037))⟩]) (.seq (.seq (gQ [gJ 4 0]) (.block 0 (.loop (.seq (.seq (gQ [gM 5 4, gM 6 0, gH 7 true 6, gV 8 .lss 5 7]) (.cond (.s 8) .skip (.exit 0))) (.seq (.block 1 (.seq (gQ [gM 11 3, gM 12 0, gM 13 4, ⟨gO, .bidx 14 (.s 12) (.s 13)⟩, ⟨gO, .conv 15 .u64 (.s 14)⟩, gV 16 .xor 11 15, gM 3 16]) (.reg [gM 17 3, ⟨gO, gB 18 .mul (.s 17) (.k (.int .u64 1099511628211))⟩, gM 3 18]))) (.reg [gM 9 4, gU 10 .add 9 1, gM 4 10])))))) (.seq (gQ [gM 19 3, gM 2 19]) .ret)))
def a_ref22_Sum : AFn := ⟨1, 20, b_ref22_Sum, [.tmp 2]⟩
theorem a_ref22_Sum_ok : fnAF Tryz.prog [] Tryz.f14 = some a_ref22_Sum := by kernel_rfl
theorem a_ref22_Sum_cb : callable Tryz.prog 14 = true := by kernel_rfl
def b_bundle_Sum : ACode :=
 .seq (gQ [⟨gO, .mov 2 (.k (.int .u64 0))⟩]) (.seq (gQ [⟨gO, .mov 3 (.k (.int .u64 14695981039346656037))⟩]) (.seq (.seq (gQ [gM 5 0, gH 6 true 5, gJ 7 0]) (.block 0 (.loop (.seq (gQ [gV 8 .lss 7 6]) (.seq (.cond (.s 8) .skip (.exit 0)) (.seq (.block 1 (.seq (gQ [gM 9 7, gM 4 9]) (.reg [gM 10 3, gM 11 0, gM 12 4, ⟨gO, .bidx 13 (.s 11) (.s 12)⟩, ⟨gO, .conv 14 .u64 (.s 13)⟩, gV 15 .xor 10 14, ⟨gO, gB 16 .mul (.s 15) (.k (.int .u64 1099511628211))⟩, gM 3 16]))) (.reg [gU 17 .add 7 1, gM 7 17]))))))) (.seq (gQ [gM 18 3, gM 2 18]) .ret)))
def a_bundle_Sum : AFn := ⟨1, 19, b_bundle_Sum, [.tmp 2]⟩
theorem a_bundle_Sum_ok : fnAF Tryz.prog [] Tryz.f13 = some a_bundle_Sum := by kernel_rfl
theorem a_bundle_Sum_cb : callable Tryz.prog 13 = true := by kernel_rfl
def b_law10_Light : ACode :=
 .seq (gQ [⟨gO, .mov 2 (.k (.bool false))⟩]) (.seq (gQ [gJ 3 0]) (.seq (.seq (gQ [gM 6 0, gH 7 false 6, gJ 8 0]) (.block 0 (.loop (.seq (gQ [gV 9 .lss 8 7]) (.seq (.cond (.s 9) .skip (.exit 0)) (.seq (.block 1 (.seq (gQ [gE 10 2 6 8, gA 11 2 10, ⟨gO, .alloc 5 [.str ⟨#[]⟩, .str ⟨#[]⟩]⟩, gT 2 5 11]) (.reg [gM 12 3, gF 13 0 5, gL 14 13, gH 15 true 14, gF 16 1 5, gL 17 16, gH 18 true 17, gV 19 .add 15 18, gU 20 .add 19 1, gV 21 .add 12 20, gM 3 21]))) (.reg [gU 22 .add 8 1, gM 8 22]))))))) (.seq (gQ [gM 23 3, gU 24 .leq 23 3000, gM 2 24]) .ret)))
def a_law10_Light : AFn := ⟨1, 25, b_law10_Light, [.tmp 2]⟩
theorem a_law10_Light_ok : fnAF Tryz.prog [] Tryz.f6 = some a_law10_Light := by kernel_rfl
theorem a_law10_Light_cb : callable Tryz.prog 6 = true := by kernel_rfl
def b_law10_Same : ACode :=
 .seq (gQ [⟨gO, .mov 4 (.k (.bool false))⟩]) (.seq (.seq (gQ [gM 6 0, gH 7 false 6, gM 8 1, gH 9 false 8, gV 10 .neq 7 9]) (.cond (.s 10) (.seq (gQ [⟨gO, .mov 4 (.k (.bool false))⟩]) .ret) .skip)) (.seq (.seq (gQ [gM 11 0, gH 12 false 11, gJ 13 0]) (.block 0 (.loop (.seq (gQ [gV 14 .lss 13 12]) (.seq (.cond (.s 14) .skip (.exit 0)) (.seq (.block 1 (.seq (gQ [gM 15 13, gM 5 15]) (.seq (gQ [gM 16 0, gM 17 5, gE 18 2 16 17, gA 19 2 18, gM 20 1, gM 21 5, gE 22 2 20 21, gA 23 2 22, ⟨gO, .eqs 24 true 46 (.s 19) (.s 23)⟩]) (.cond (.s 24) (.seq (gQ [⟨gO, .mov 4 (.k (.bool false))⟩]) .ret) .skip)))) (.reg [gU 25 .add 13 1, gM 13 25]))))))) (.seq (gQ [⟨gO, .mov 4 (.k (.bool true))⟩]) .ret)))
def a_law10_Same : AFn := ⟨2, 26, b_law10_Same, [.tmp 4]⟩
theorem a_law10_Same_ok : fnAF Tryz.prog [] Tryz.f11 = some a_law10_Same := by kernel_rfl
theorem a_law10_Same_cb : callable Tryz.prog 11 = true := by kernel_rfl
end Go.Proofs.YtbfiopoefbbknaaGreatDoor
namespace Go.Proofs.YtbfiopoefbbknaaGreatDoor
open Go.RowKit
abbrev Fl := ByteArray × ByteArray
def rowsF (l : List Fl) : List (List AV) := l.map fun p => [.str p.1, .str p.2]
theorem rowsF_len (l : List Fl) : (rowsF l).length = l.length := List.length_map _
theorem rowsF_at {l : List Fl} {k : Nat} {p : Fl} (h : l[k]? = some p) : (rowsF l)[k]? = some [.str p.1, .str p.2] := by simp [rowsF, h]
theorem rowsF_snoc (l : List Fl) (p : Fl) : rowsF (l ++ [p]) = rowsF l ++ [[.str p.1, .str p.2]] := by simp [rowsF]
def sumI (s : ByteArray) : Nat → Int
 | 0 => 14695981039346656037
 | k + 1 => IntKind.u64.wrap (bits .xor .u64 (sumI s k) (IntKind.u64.wrap ((s.data.getD k 0).toNat : Int)) * 1099511628211)
theorem sum_a (s : ByteArray) (hs : s.size ≤ 140737488355328) : AC Tryz.prog 13 [.str s] (.int .u64 (sumI s s.size)) := by
 refine kE Tryz.func13 a_bundle_Sum_ok a_bundle_Sum_cb fun E hE => ?_
 refine kW ?_
 refine AK.loopI (fun k : Nat => (frOf [(0, .str s), (3, .int .u64 (sumI s k)), (6, .int .i64 s.size), (7, .int .i64 k)], ⟨boxOf [], fun _ => 0⟩)) (fun k => k ≤ s.size) (fun k => s.size - k) 0 (Nat.zero_le _) (Weak.intro ⟨kI, kI, kI, kI, trivial⟩ trivial rfl rfl) fun k hk => ?_
 refine kW ?_
 refine kC (fun hb => ?_) fun hb => ?_
 ·have hlt : k < s.size := by simpa using hb
  refine kW ?_
  refine kQ [] ?_
  refine kW ?_
  exact AK.lp ⟨k + 1, by omega, Weak.intro ⟨kI, kI, kI, kU, trivial⟩ trivial rfl rfl, by omega⟩
 ·have hlt : k = s.size := by have : s.size ≤ k := by simpa using hb
                              omega
  subst hlt
  refine AK.exit rfl ?_
  refine kW ?_
  refine AK.ret ⟨_, rfl, ?_⟩
  rfl
theorem refSum_a (s : ByteArray) (hs : s.size ≤ 140737488355328) : AC Tryz.prog 14 [.str s] (.int .u64 (sumI s s.size)) := by
 refine kE Tryz.func14 a_ref22_Sum_ok a_ref22_Sum_cb fun E hE => ?_
 refine kW ?_
 refine AK.loopI (fun k : Nat => (frOf [(0, .str s), (3, .int .u64 (sumI s k)), (4, .int .i64 k)], ⟨boxOf [], fun _ => 0⟩)) (fun k => k ≤ s.size) (fun k => s.size - k) 0 (Nat.zero_le _) (Weak.intro ⟨kI, kI, kI, trivial⟩ trivial rfl rfl) fun k hk => ?_
 refine kW ?_
 refine kC (fun hb => ?_) fun hb => ?_
 ·have hlt : k < s.size := by simpa using hb
  refine kW ?_
  refine kQ [] ?_
  refine kW ?_
  exact AK.lp ⟨k + 1, by omega, Weak.intro ⟨kI, kI, kU, trivial⟩ trivial rfl rfl, by omega⟩
 ·have hlt : k = s.size := by have : s.size ≤ k := by simpa using hb
                              omega
  subst hlt
  refine AK.exit rfl ?_
  refine kW ?_
  refine AK.ret ⟨_, rfl, ?_⟩
  rfl
def lightN (l : List Fl) : Nat → Int
 | 0 => 0
 | k + 1 => IntKind.i64.wrap (lightN l k + IntKind.i64.wrap (IntKind.i64.wrap (((l.getD k (⟨#[]⟩, ⟨#[]⟩)).1.size : Int) + ((l.getD k (⟨#[]⟩, ⟨#[]⟩)).2.size : Int)) + 1))
theorem light_a (l : List Fl) (hl : l.length ≤ 4398046511104) : AC Tryz.prog 6 [.lst .any 2 (rowsF l)] (.bool (decide (lightN l l.length ≤ 3000))) := by
 refine kE Tryz.func6 a_law10_Light_ok a_law10_Light_cb fun E hE => ?_
 refine kW ?_
 refine AK.loopI (fun k : Nat => (frOf [(3, .int .i64 (lightN l k)), (6, .lst .any 2 (rowsF l)), (7, .int .i64 (rowsF l).length), (8, .int .i64 k)], ⟨boxOf [], fun _ => 0⟩)) (fun k => k ≤ l.length) (fun k => l.length - k) 0 (Nat.zero_le _) (Weak.intro ⟨kI, kI, kI, kI, trivial⟩ trivial rfl rfl) fun k hk => ?_
 refine kW ?_
 refine kC (fun hb => ?_) fun hb => ?_
 ·have hlt : k < l.length := by simpa [rowsF_len] using hb
  obtain ⟨p, hg⟩ : ∃ x, l[k]? = some x := ⟨_, List.getElem?_eq_getElem hlt⟩
  have hd : l.getD k (⟨#[]⟩, ⟨#[]⟩) = p := by rw [List.getD_eq_getElem?_getD, hg]; rfl
  refine kW ?_
  refine kP [.c [.str p.1, .str p.2]] ?_ ?_
  ·((repeat' apply And.intro) <;> first | exact kD | (intro hgd; refine ⟨?_, kG⟩; (repeat' apply And.intro) <;> first | exact kD | skip) | skip)
   ·exact rowsF_at hg
  refine kW ?_
  exact AK.lp ⟨k + 1, by omega, Weak.intro ⟨⟨_, rfl, .of_eq (congrArg (AV.int .i64) (by rw [lightN, hd]))⟩, kI, kI, kU, trivial⟩ trivial rfl rfl, by omega⟩
 ·have hlt : k = l.length := by have : l.length ≤ k := by simpa [rowsF_len] using hb
                                omega
  subst hlt
  refine AK.exit rfl ?_
  refine kW ?_
  refine AK.ret ⟨_, rfl, ?_⟩
  rfl
end Go.Proofs.YtbfiopoefbbknaaGreatDoor
namespace Go.Proofs.YtbfiopoefbbknaaGreatDoor
open Go.ChangeShapes Go.WideShapes Go.ChangeAt Go.RowKit Go.Deep
theorem cellsF : Tryz.prog.cellsOf 46 = 2 := by kernel_rfl
theorem bytesF : Tryz.prog.bytesOf 46 = 32 := by kernel_rfl
theorem sl_every {α : Type} {size : Nat} {R : List Value → α → Prop} {w : World} {B : Nat} {v : Value} {l : List α} (h : Sl size R w B v l) {x : α} (hx : x ∈ l) : ∃ cs, R cs x := by
 obtain ⟨A, cap, _, _, hat⟩ := h
 obtain ⟨i, hi⟩ := List.getElem?_of_mem hx
 obtain ⟨_, _, _, _, cs, _, h2, _⟩ := hat i x hi
 exact ⟨cs, h2⟩
theorem files_of_trod2 {H : Type} {enc : TypeId × Value → H} {w : World} {base : Nat} {spare : Nat → Bool} {held : Bool} {v : Value} {d : DataW H} {p : List MemPlace} (hv : ∃ a n c, v = .slice a n c) (h : DataW.Trod enc Tryz.prog w base spare held 22 v d p) (hw : WtOk Tryz.prog 22 d) :
  ∃ l : List Fl, Rel1 (σW w) v (.lst .any 2 (rowsF l)) ∧ l.length ≤ 4398046511103 ∧ ∀ p ∈ l, p.1.size ≤ 140737488355328 ∧ p.2.size ≤ 140737488355328 := by
 obtain ⟨a, n, c, rfl⟩ := hv
 obtain ⟨fuel, hf⟩ := h
 obtain ⟨l, hl, hb⟩ := sl_of_trodW (R := fun cs (p : Fl) => cs = [.string p.1, .string p.2] ∧ p.1.size ≤ 140737488355328 ∧ p.2.size ≤ 140737488355328) (x := (d, p)) Tryz.underlying22 cellsF (by decide) (v := .slice a n c) (fuel := fuel) (by simpa [Value.cells] using hf) hw (fun n cs y _ h hw => by
  obtain ⟨xs, m, hm, hy, hl, hxl, hf⟩ := DataW.trod_struct Tryz.underlying46 h
  rw [cellsF] at hl
  obtain ⟨c0, c1, rfl⟩ : ∃ a b, cs = [a, b] := by
   rcases cs with _ | ⟨a, _ | ⟨b, _ | ⟨c, l⟩⟩⟩ <;> simp at hl
   exact ⟨a, b, rfl⟩
  obtain ⟨x0, x1, rfl⟩ : ∃ a b, xs = [a, b] := by
   have hxl : xs.length = 2 := hxl
   rcases xs with _ | ⟨a, _ | ⟨b, _ | ⟨c, l⟩⟩⟩ <;> simp at hxl
   exact ⟨a, b, rfl⟩
  rw [hy] at hw
  have f0 : DataW.trod enc Tryz.prog w base spare held m 9 (List.take (Tryz.prog.cellsOf 9) (List.drop 0 [c0, c1])) = some x0 := hf 0 _ rfl
  have f1 : DataW.trod enc Tryz.prog w base spare held m 9 (List.take (Tryz.prog.cellsOf 9) (List.drop 1 [c0, c1])) = some x1 := hf 1 _ rfl
  have w0 : WtOk Tryz.prog 9 x0.1 := WtOk.part Tryz.underlying46 hw (j := 0) rfl rfl
  have w1 : WtOk Tryz.prog 9 x1.1 := WtOk.part Tryz.underlying46 hw (j := 1) rfl rfl
  simp only [cellsS, List.drop_succ_cons, List.drop_zero, List.take_succ_cons, List.take_zero] at f0 f1
  obtain ⟨s0, e0, hx0, _⟩ := DataW.trod_string Tryz.underlying9 f0
  obtain ⟨s1, e1, hx1, _⟩ := DataW.trod_string Tryz.underlying9 f1
  injection e0 with e0; injection e1 with e1
  subst e0 e1
  rw [hx0] at w0
  rw [hx1] at w1
  exact ⟨(s0, s1), rfl, str_wt w0, str_wt w1⟩)
 refine ⟨l, rel_of_sl hl (fun p => [.str p.1, .str p.2]) (fun cs p hcs => by obtain ⟨rfl, _⟩ := hcs; exact .cons (.str _) (.cons (.str _) .nil)), ?_, fun p hp => ?_⟩
 ·rw [bytesF] at hb
  have := reach47
  have h3 : reachBytes = 140737488351232 := rfl
  omega
 ·obtain ⟨cs, _, h⟩ := sl_every hl hp
  exact h
end Go.Proofs.YtbfiopoefbbknaaGreatDoor
namespace Go.Proofs.YtbfiopoefbbknaaGreatDoor
abbrev gi_acceptRanges : Nat := 5
abbrev gi_first : Nat := 4
end Go.Proofs.YtbfiopoefbbknaaGreatDoor
namespace Go.Proofs.YtbfiopoefbbknaaGreatDoor
open Go.ChangeShapes Go.WideShapes Go.ChangeAt Go.RowKit Go.Deep
def pinV : DataW Unit → List Value
 | .agg l => l.map fun
  | .lit (.int k z) => .int k z
  | _ => undef
 | _ => []
def pinV2 : DataW Unit → List Value
 | .agg l => l.flatMap pinV
 | _ => []
noncomputable def laidHeap0 (os : Os) : Array Obj := setG (setG (setG (World.holding Tryz.prog os ⟨#[], #[], []⟩).heap gi_deBruijn32tab gv_deBruijn32tab) gi_deBruijn64tab gv_deBruijn64tab) gi_uint64pow10 gv_uint64pow10
noncomputable def laidHeap (os : Os) : Array Obj := setG (setG (laidHeap0 os) gi_first (pinV Rows.laid_unicode_utf8_first)) gi_acceptRanges (pinV2 Rows.laid_unicode_utf8_acceptRanges)
noncomputable def laidWorld (os : Os) : World :=
 { World.holding Tryz.prog os ⟨#[], #[], []⟩ with heap := setG (setG (laidHeap os) gi_ErrRange [.iface 216 (.pointer (some ⟨(laidHeap os).size, 0, none⟩))]) gi_ErrSyntax [.iface 216 (.pointer (some ⟨(laidHeap os).size + 1, 0, none⟩))]
    ++ #[.cells #[.string ⟨#[118, 97, 108, 117, 101, 32, 111, 117, 116, 32, 111, 102, 32, 114, 97, 110, 103, 101]⟩] 218 (0, 0), .cells #[.string ⟨#[105, 110, 118, 97, 108, 105, 100, 32, 115, 121, 110, 116, 97, 120]⟩] 218 (0, 0)] }
theorem RelPs.one {σ : Sg} {a : Value} {x : AV} (h : RelP σ a x) : RelPs σ [a] [x] := by
 refine ⟨rfl, fun j v w hv hu => ?_⟩
 rcases j with _ | j <;> simp at hv hu
 subst hv hu; exact h
end Go.Proofs.YtbfiopoefbbknaaGreatDoor
/-
 Values and lists of texts as arguments.
-/
namespace Go.Proofs.YtbfiopoefbbknaaGreatDoor
open Go.ChangeShapes Go.WideShapes Go.ChangeAt Go.RowKit Go.Deep
end Go.Proofs.YtbfiopoefbbknaaGreatDoor
namespace Go.Proofs.YtbfiopoefbbknaaGreatDoor
set_option maxRecDepth 100000
def b_chart_Name : ACode :=
 .seq (gQ [⟨gO, .mov 2 (.k (.bool false))⟩]) (.seq (.seq (gQ [gM 5 0, ⟨gO, .call (some 6) (.k (.fn 75 [])) [.s 5, gS ⟨#[47]⟩]⟩, gH 7 false 6, gJ 8 0]) (.block 0 (.loop (.seq (gQ [gV 9 .lss 8 7]) (.seq (.cond (.s 9) .skip (.exit 0)) (.seq (.block 1 (.seq (gQ [gE 10 1 6 8, gL 11 10, gM 4 11]) (.seq (gQ [gM 12 4, ⟨gO, gB 13 .eql (.s 12) (gS ⟨#[]⟩)⟩, gM 14 13, gN 14 false 15 4, ⟨some (14, false), .bin 16 .eql false (.s 15) (gS ⟨#[46]⟩)⟩, ⟨gO, .pick 17 (.s 14) (.k (.bool true)) (.s 16)⟩, gM 18 17, gN 18 false 19 4, ⟨some (18, false), .bin 20 .eql false (.s 19) (gS ⟨#[46, 46]⟩)⟩, ⟨gO, .pick 21 (.s 18) (.k (.bool true)) (.s 20)⟩, gM 22 21, gN 22 false 23 4, ⟨some (22, false), .call (some 24) (.k (.fn 76 [])) [.s 23, gS ⟨#[95]⟩]⟩, ⟨some (22, false), .call (some 25) (.k (.fn 51 [])) [.s 24]⟩, ⟨some (22, false), .un 26 .not (.s 25)⟩, ⟨gO, .pick 27 (.s 22) (.k (.bool true)) (.s 26)⟩]) (.cond (.s 27) (.seq (gQ [⟨gO, .mov 2 (.k (.bool false))⟩]) .ret) .skip)))) (.reg [gU 28 .add 8 1, gM 8 28]))))))) (.seq (gQ [gM 29 0, gH 30 true 29, gU 31 .leq 30 256, gM 2 31]) .ret))
def a_chart_Name : AFn := ⟨1, 32, b_chart_Name, [.tmp 2]⟩
theorem a_chart_Name_ok : fnAF Tryz.prog [] Tryz.f37 = some a_chart_Name := by kernel_rfl
theorem a_chart_Name_cb : callable Tryz.prog 37 = true := by kernel_rfl
def b_bundle_Pack : ACode :=
 .seq (gQ [⟨gO, .mov 2 (gS ⟨#[]⟩)⟩, gJ 3 0]) (.seq (.seq (gQ [gM 10 0, gH 11 false 10, gU 12 .gtr 11 32]) (.cond (.s 12) (.seq (gQ [⟨gO, .mov 2 (gS ⟨#[]⟩)⟩, gJ 3 6]) .ret) .skip)) (.seq (gQ [⟨gO, .call (some 13) (.k (.fn 35 [])) [.k (.lst .nil 7 [])]⟩, ⟨gO, .alloc 4 gZ⟩, gT 6 4 13]) (.seq (.seq (gQ [gM 14 0, gH 15 false 14, gJ 16 0]) (.block 0 (.loop (.seq (gQ [gV 17 .lss 16 15]) (.seq (.cond (.s 17) .skip (.exit 0)) (.seq (.block 1 (.seq (gQ [gE 18 2 14 16, gA 19 2 18, ⟨gO, .alloc 6 [.str ⟨#[]⟩, .str ⟨#[]⟩]⟩, gT 2 6 19]) (.seq (.seq (gQ [gA 21 6 4, gF 22 0 6, gL 23 22, gC 24 36 [.s 21, .s 23], gM 20 24, gX 25 0 20, gX 26 1 20, ⟨gO, .alloc 7 gZ⟩, gT 6 7 25, gM 8 26]) (.block 2 (.seq (gQ [gF 28 0 6, gL 29 28, gC 30 37 [.s 29], ⟨gO, .un 31 .not (.s 30)⟩, gM 27 31]) (.cond (.s 27) (.seq (gQ [⟨gO, .mov 2 (gS ⟨#[]⟩)⟩, gJ 3 22]) .ret) (.seq (gQ [gF 33 1 6, gL 34 33, gC 35 38 [.s 34], ⟨gO, .un 36 .not (.s 35)⟩, gM 32 36]) (.cond (.s 32) (.seq (gQ [⟨gO, .mov 2 (gS ⟨#[]⟩)⟩, gJ 3 10]) .ret) (.seq (gQ [gM 38 8, gM 37 38]) (.cond (.s 37) (.seq (gQ [⟨gO, .mov 2 (gS ⟨#[]⟩)⟩, gJ 3 13]) .ret) .skip)))))))) (.reg [gA 39 6 4, gF 40 0 6, gL 41 40, gF 42 1 6, gL 43 42, gC 44 40 [.s 43], gC 45 39 [.s 39, .s 41, .s 44], gT 6 4 45])))) (.reg [gU 46 .add 16 1, gM 16 46]))))))) (.seq (gQ [gA 47 6 4, gC 48 41 [.s 47], gM 9 48]) (.seq (.seq (gQ [gM 49 9, gH 50 true 49, gU 51 .gtr 50 65536]) (.cond (.s 51) (.seq (gQ [⟨gO, .mov 2 (gS ⟨#[]⟩)⟩, gJ 3 6]) .ret) .skip)) (.seq (gQ [gM 52 9, gM 2 52, gJ 3 0]) .ret))))))
def a_bundle_Pack : AFn := ⟨1, 53, b_bundle_Pack, [.tmp 2, .tmp 3]⟩
theorem a_bundle_Pack_ok : fnAF Tryz.prog [] Tryz.f8 = some a_bundle_Pack := by kernel_rfl
theorem a_bundle_Pack_cb : callable Tryz.prog 8 = true := by kernel_rfl
def b_bundle_Unpack : ACode :=
 .seq (gQ [⟨gO, .mov 2 (.k (.lst .nil 2 []))⟩, gJ 3 0]) (.seq (gQ [gM 10 0, gC 11 15 [.s 10], gM 9 11, gX 12 0 9, gX 13 1 9, ⟨gO, .alloc 4 gZ⟩, gT 6 4 12, gM 5 13]) (.seq (.block 0 (.seq (gQ [gM 15 5, gU 16 .neq 15 0, gM 14 16]) (.cond (.s 14) (.seq (gQ [gM 17 5, ⟨gO, .mov 2 (.k (.lst .nil 2 []))⟩, gM 3 17]) .ret) (.seq (gQ [gF 19 0 4, gL 20 19, gU 21 .neq 20 5, gM 18 21]) (.cond (.s 18) (.seq (gQ [⟨gO, .mov 2 (.k (.lst .nil 2 []))⟩, gJ 3 8]) .ret) (.seq (gQ [gF 23 5 4, gL 24 23, gH 25 false 24, gU 26 .gtr 25 32, gM 22 26]) (.cond (.s 22) (.seq (gQ [⟨gO, .mov 2 (.k (.lst .nil 2 []))⟩, gJ 3 6]) .ret) .skip))))))) (.seq (gQ [⟨gO, .mov 6 (.k (.lst .nil 2 []))⟩]) (.seq (.seq (gQ [gF 27 5 4, gL 28 27, gH 29 false 28, gJ 30 0]) (.block 1 (.loop (.seq (gQ [gV 31 .lss 30 29]) (.seq (.cond (.s 31) .skip (.exit 1)) (.seq (.block 2 (.seq (gQ [gE 32 7 28 30, gA 33 7 32, ⟨gO, .alloc 8 [.str ⟨#[]⟩, .int .i64 0, .bool false, .int .i64 0, .str ⟨#[]⟩, .lst .nil 6 [], .lst .nil 7 []]⟩, gT 7 8 33]) (.seq (.block 3 (.seq (gQ [gF 35 0 8, gL 36 35, gC 37 37 [.s 36], ⟨gO, .un 38 .not (.s 37)⟩, gM 34 38]) (.cond (.s 34) (.seq (gQ [⟨gO, .mov 2 (.k (.lst .nil 2 []))⟩, gJ 3 22]) .ret) (.seq (gQ [gF 40 1 8, gF 41 0 40, gL 42 41, gU 43 .neq 42 3, gM 39 43]) (.cond (.s 39) (.seq (gQ [⟨gO, .mov 2 (.k (.lst .nil 2 []))⟩, gJ 3 8]) .ret) .skip))))) (.reg [gM 44 6, gF 45 0 8, gL 46 45, gF 47 1 8, gF 48 3 47, gL 49 48, ⟨gO, .build 50 [.str ⟨#[]⟩, .str ⟨#[]⟩] [(0, 1, .s 46), (1, 1, .s 49)]⟩, ⟨gO, .bsl 51 1 2 [.str ⟨#[]⟩, .str ⟨#[]⟩] [(0, 2, .s 50)]⟩, ⟨gO, .app 52 2 32 (.s 44) (.s 51)⟩, gM 6 52])))) (.reg [gU 53 .add 30 1, gM 30 53]))))))) (.seq (gQ [gM 54 6, gM 2 54, gJ 3 0]) .ret)))))
def a_bundle_Unpack : AFn := ⟨1, 55, b_bundle_Unpack, [.tmp 2, .tmp 3]⟩
theorem a_bundle_Unpack_ok : fnAF Tryz.prog [] Tryz.f10 = some a_bundle_Unpack := by kernel_rfl
theorem a_bundle_Unpack_cb : callable Tryz.prog 10 = true := by kernel_rfl
def b_law22_awake : ACode :=
 .seq (gQ [⟨gO, .mov 0 (.k (.bool false))⟩]) (.seq (gQ [⟨gO, .call (some 4) (.k (.fn 8 [])) [.k (.lst .nil 2 [])]⟩, gM 3 4, gX 5 0 3, gX 6 1 3, gM 1 5, gM 2 6]) (.seq (gQ [⟨gO, .call (some 7) (.k (.fn 13 [])) [gS ⟨#[]⟩]⟩, ⟨gO, gB 8 .eql (.s 7) (.k (.int .u64 14695981039346656037))⟩, gM 9 8, gN 9 true 10 2, ⟨some (9, true), .bin 11 .eql false (.s 10) (gI 0)⟩, ⟨gO, .pick 12 (.s 9) (.s 11) (.k (.bool false))⟩, gM 13 12, gN 13 true 14 1, ⟨some (13, true), .bin 15 .eql false (.s 14) (gS ⟨#[123, 125, 10]⟩)⟩, ⟨gO, .pick 16 (.s 13) (.s 15) (.k (.bool false))⟩, gM 0 16]) .ret))
def a_law22_awake : AFn := ⟨0, 17, b_law22_awake, [.tmp 0]⟩
theorem a_law22_awake_ok : fnAF Tryz.prog [] Tryz.f7 = some a_law22_awake := by kernel_rfl
theorem a_law22_awake_cb : callable Tryz.prog 7 = true := by kernel_rfl
def b_law22_BundlePacks : ACode :=
 .seq (gQ [⟨gO, .mov 2 (.k (.bool false))⟩]) (.seq (.seq (gQ [gM 9 0, gC 10 6 [.s 9], ⟨gO, .un 11 .not (.s 10)⟩]) (.cond (.s 11) (.seq (gQ [gC 12 7 [], gM 2 12]) .ret) .skip)) (.seq (gQ [gM 14 0, gC 15 8 [.s 14], gM 13 15, gX 16 0 13, gX 17 1 13, gM 3 16, gM 4 17]) (.seq (gQ [gM 19 0, gC 20 9 [.s 19], gM 18 20, gX 21 0 18, gX 22 1 18, gM 5 21, gM 6 22]) (.seq (.seq (gQ [gM 23 4, gM 24 6, gV 25 .neq 23 24, gM 26 25, gN 26 false 27 3, gN 26 false 28 5, ⟨some (26, false), .bin 29 .neq false (.s 27) (.s 28)⟩, ⟨gO, .pick 30 (.s 26) (.k (.bool true)) (.s 29)⟩]) (.cond (.s 30) (.seq (gQ [⟨gO, .mov 2 (.k (.bool false))⟩]) .ret) .skip)) (.seq (.seq (gQ [gM 31 6, gU 32 .neq 31 0]) (.cond (.s 32) (.seq (gQ [gC 33 7 [], gM 2 33]) .ret) .skip)) (.seq (gQ [gM 35 3, gC 36 10 [.s 35], gM 34 36, gX 37 0 34, gX 38 1 34, gM 7 37, gM 8 38]) (.seq (gQ [gC 39 7 [], gM 40 39, gN 40 true 41 8, ⟨some (40, true), .bin 42 .eql false (.s 41) (gI 0)⟩, ⟨gO, .pick 43 (.s 40) (.s 42) (.k (.bool false))⟩, gM 44 43, gN 44 true 45 7, gN 44 true 46 0, ⟨some (44, true), .call (some 47) (.k (.fn 12 [])) [.s 46]⟩, ⟨some (44, true), .call (some 48) (.k (.fn 11 [])) [.s 45, .s 47]⟩, ⟨gO, .pick 49 (.s 44) (.s 48) (.k (.bool false))⟩, gM 50 49, gN 50 true 51 3, ⟨some (50, true), .call (some 52) (.k (.fn 13 [])) [.s 51]⟩, gN 50 true 53 3, ⟨some (50, true), .call (some 54) (.k (.fn 14 [])) [.s 53]⟩, ⟨some (50, true), .bin 55 .eql false (.s 52) (.s 54)⟩, ⟨gO, .pick 56 (.s 50) (.s 55) (.k (.bool false))⟩, gM 2 56]) .ret)))))))
def a_law22_BundlePacks : AFn := ⟨1, 57, b_law22_BundlePacks, [.tmp 2]⟩
theorem a_law22_BundlePacks_ok : fnAF Tryz.prog [] Tryz.f3 = some a_law22_BundlePacks := by kernel_rfl
theorem a_law22_BundlePacks_cb : callable Tryz.prog 3 = true := by kernel_rfl
def b_law22_BundleReads : ACode :=
 .seq (gQ [⟨gO, .mov 2 (.k (.bool false))⟩]) (.seq (.seq (gQ [gM 11 0, gH 12 true 11, gU 13 .gtr 12 4000]) (.cond (.s 13) (.seq (gQ [gC 14 7 [], gM 2 14]) .ret) .skip)) (.seq (gQ [gM 16 0, gC 17 10 [.s 16], gM 15 17, gX 18 0 15, gX 19 1 15, gM 3 18, gM 4 19]) (.seq (gQ [gM 21 0, gC 22 15 [.s 21], gM 20 22, gX 23 0 20, gX 24 1 20, ⟨gO, .alloc 5 gZ⟩, gT 6 5 23, gM 6 24]) (.seq (gQ [gM 25 6, gM 7 25]) (.seq (gQ [⟨gO, .mov 8 (.k (.lst .nil 2 []))⟩]) (.seq (.seq (gQ [gM 26 6, gU 27 .eql 26 0, gM 28 27, ⟨some (28, true), .off 29 0 (.s 5)⟩, ⟨some (28, true), .ld 30 1 false (.s 29)⟩, ⟨some (28, true), .bin 31 .neq false (.s 30) (gI 5)⟩, ⟨gO, .pick 32 (.s 28) (.s 31) (.k (.bool false))⟩]) (.cond (.s 32) (.reg [gJ 7 8]) (.seq (gQ [gM 33 6, gU 34 .eql 33 0, gM 35 34, ⟨some (35, true), .off 36 5 (.s 5)⟩, ⟨some (35, true), .ld 37 1 false (.s 36)⟩, ⟨some (35, true), .len 38 false (.s 37)⟩, ⟨some (35, true), .bin 39 .gtr false (.s 38) (gI 32)⟩, ⟨gO, .pick 40 (.s 35) (.s 39) (.k (.bool false))⟩]) (.cond (.s 40) (.reg [gJ 7 6]) .skip)))) (.seq (.seq (gQ [gF 41 5 5, gL 42 41, gH 43 false 42, gJ 44 0]) (.block 0 (.loop (.seq (gQ [gV 45 .lss 44 43]) (.seq (.cond (.s 45) .skip (.exit 0)) (.seq (.block 1 (.seq (gQ [gE 46 7 42 44, gA 47 7 46, ⟨gO, .alloc 10 [.str ⟨#[]⟩, .int .i64 0, .bool false, .int .i64 0, .str ⟨#[]⟩, .lst .nil 6 [], .lst .nil 7 []]⟩, gT 7 10 47]) (.block 2 (.seq (gQ [gM 58 7, gU 59 .neq 58 0, gM 57 59]) (.cond (.s 57) .skip (.seq (gQ [gF 61 0 10, gL 62 61, gC 63 16 [.s 62], ⟨gO, .un 64 .not (.s 63)⟩, gM 60 64]) (.cond (.s 60) (.reg [gJ 7 22]) (.seq (gQ [gF 66 1 10, gF 67 0 66, gL 68 67, gU 69 .neq 68 3, gM 65 69]) (.cond (.s 65) (.reg [gJ 7 8]) (.reg [gM 48 8, gF 49 0 10, gL 50 49, gF 51 1 10, gF 52 3 51, gL 53 52, ⟨gO, .build 54 [.str ⟨#[]⟩, .str ⟨#[]⟩] [(0, 1, .s 50), (1, 1, .s 53)]⟩, ⟨gO, .bsl 55 1 2 [.str ⟨#[]⟩, .str ⟨#[]⟩] [(0, 2, .s 54)]⟩, ⟨gO, .app 56 2 32 (.s 48) (.s 55)⟩, gM 8 56])))))))))) (.reg [gU 70 .add 44 1, gM 44 70]))))))) (.seq (.seq (gQ [gM 71 4, gM 72 7, gV 73 .neq 71 72]) (.cond (.s 73) (.seq (gQ [⟨gO, .mov 2 (.k (.bool false))⟩]) .ret) .skip)) (.seq (gQ [gC 74 7 [], gM 75 74, gN 75 true 76 7, ⟨some (75, true), .bin 77 .neq false (.s 76) (gI 0)⟩, gN 75 true 78 77, gN 78 true 79 3, ⟨some (78, true), .len 80 false (.s 79)⟩, ⟨some (78, true), .bin 81 .eql false (.s 80) (gI 0)⟩, ⟨some (75, true), .pick 82 (.s 78) (.s 81) (.k (.bool false))⟩, gN 75 true 83 82, gN 83 false 84 7, ⟨some (83, false), .bin 85 .eql false (.s 84) (gI 0)⟩, gN 83 false 86 85, gN 86 true 87 3, gN 86 true 88 8, ⟨some (86, true), .call (some 89) (.k (.fn 11 [])) [.s 87, .s 88]⟩, ⟨some (83, false), .pick 90 (.s 86) (.s 89) (.k (.bool false))⟩, ⟨some (75, true), .pick 91 (.s 83) (.k (.bool true)) (.s 90)⟩, ⟨gO, .pick 92 (.s 75) (.s 91) (.k (.bool false))⟩, gM 2 92]) .ret)))))))))
def a_law22_BundleReads : AFn := ⟨1, 93, b_law22_BundleReads, [.tmp 2]⟩
theorem a_law22_BundleReads_ok : fnAF Tryz.prog [] Tryz.f4 = some a_law22_BundleReads := by kernel_rfl
theorem a_law22_BundleReads_cb : callable Tryz.prog 4 = true := by kernel_rfl
def b_ref22_Pack : ACode :=
 .seq (gQ [⟨gO, .mov 2 (gS ⟨#[]⟩)⟩, gJ 3 0]) (.seq (.seq (gQ [gM 9 0, gH 10 false 9, gU 11 .gtr 10 32]) (.cond (.s 11) (.seq (gQ [⟨gO, .mov 2 (gS ⟨#[]⟩)⟩, gJ 3 6]) .ret) .skip)) (.seq (gQ [⟨gO, .build 12 gZ [(0, 1, gI 5)]⟩, ⟨gO, .alloc 4 gZ⟩, gT 6 4 12]) (.seq (.seq (gQ [gJ 5 0]) (.block 0 (.loop (.seq (.seq (gQ [gM 13 5, gM 14 0, gH 15 false 14, gV 16 .lss 13 15]) (.cond (.s 16) .skip (.exit 0))) (.seq (.block 1 (.seq (.seq (gQ [gM 19 0, gM 20 5, gE 21 2 19 20, gF 22 0 21, gL 23 22, gC 24 16 [.s 23], ⟨gO, .un 25 .not (.s 24)⟩]) (.cond (.s 25) (.seq (gQ [⟨gO, .mov 2 (gS ⟨#[]⟩)⟩, gJ 3 22]) .ret) .skip)) (.seq (.seq (gQ [gM 26 0, gM 27 5, gE 28 2 26 27, gF 29 1 28, gL 30 29, gC 31 42 [.s 30], ⟨gO, .un 32 .not (.s 31)⟩]) (.cond (.s 32) (.seq (gQ [⟨gO, .mov 2 (gS ⟨#[]⟩)⟩, gJ 3 10]) .ret) .skip)) (.seq (.seq (gQ [gA 34 6 4, gM 35 0, gM 36 5, gE 37 2 35 36, gF 38 0 37, gL 39 38, gC 40 43 [.s 34, .s 39], gM 33 40, gX 41 0 33, gX 42 1 33, ⟨gO, .alloc 6 gZ⟩, gT 6 6 41, gM 7 42]) (.seq (gQ [gM 43 7]) (.cond (.s 43) (.seq (gQ [⟨gO, .mov 2 (gS ⟨#[]⟩)⟩, gJ 3 13]) .ret) .skip))) (.reg [gA 44 6 4, gM 45 0, gM 46 5, gE 47 2 45 46, gF 48 0 47, gL 49 48, gM 50 0, gM 51 5, gE 52 2 50 51, gF 53 1 52, gL 54 53, ⟨gO, .build 55 gZ [(0, 1, gI 3), (3, 1, .s 54)]⟩, gC 56 44 [.s 44, .s 49, .s 55], gT 6 4 56]))))) (.reg [gM 17 5, gU 18 .add 17 1, gM 5 18])))))) (.seq (gQ [gA 57 6 4, gC 58 45 [.s 57], gM 8 58]) (.seq (.seq (gQ [gM 59 8, gH 60 true 59, gU 61 .gtr 60 65536]) (.cond (.s 61) (.seq (gQ [⟨gO, .mov 2 (gS ⟨#[]⟩)⟩, gJ 3 6]) .ret) .skip)) (.seq (gQ [gM 62 8, gM 2 62, gJ 3 0]) .ret))))))
def a_ref22_Pack : AFn := ⟨1, 63, b_ref22_Pack, [.tmp 2, .tmp 3]⟩
theorem a_ref22_Pack_ok : fnAF Tryz.prog [] Tryz.f9 = some a_ref22_Pack := by kernel_rfl
theorem a_ref22_Pack_cb : callable Tryz.prog 9 = true := by kernel_rfl
def b_ref10_Name : ACode :=
 .seq (gQ [⟨gO, .mov 2 (.k (.bool false))⟩]) (.seq (.seq (gQ [gM 5 0, gH 6 true 5, gU 7 .gtr 6 256]) (.cond (.s 7) (.seq (gQ [⟨gO, .mov 2 (.k (.bool false))⟩]) .ret) .skip)) (.seq (gQ [⟨gO, .mov 3 (gS ⟨#[]⟩)⟩]) (.seq (.seq (gQ [gJ 4 0]) (.block 0 (.loop (.seq (.seq (gQ [gM 8 4, gM 9 0, gH 10 true 9, gV 11 .leq 8 10]) (.cond (.s 11) .skip (.exit 0))) (.seq (.block 1 (.seq (.seq (gQ [gM 14 4, gM 15 0, gH 16 true 15, gV 17 .lss 14 16, gM 18 17, gN 18 true 19 0, gN 18 true 20 4, ⟨some (18, true), .bidx 21 (.s 19) (.s 20)⟩, ⟨some (18, true), .bin 22 .neq false (.s 21) (.k (.int .u8 47))⟩, ⟨gO, .pick 23 (.s 18) (.s 22) (.k (.bool false))⟩]) (.cond (.s 23) (.seq (gQ [gM 24 3, gM 25 0, gM 26 4, gM 27 4, gU 28 .add 27 1, ⟨gO, .sub 29 true 0 (.s 25) (some (.s 26)) (some (.s 28))⟩, gV 30 .add 24 29, gM 3 30]) (.exit 1)) .skip)) (.seq (.seq (gQ [gM 31 3, gH 32 true 31, gU 33 .gtr 32 0, gM 34 33, gN 34 true 35 3, ⟨some (34, true), .bidx 36 (.s 35) (gI 0)⟩, ⟨some (34, true), .bin 37 .eql false (.s 36) (.k (.int .u8 95))⟩, ⟨gO, .pick 38 (.s 34) (.s 37) (.k (.bool false))⟩]) (.cond (.s 38) (.reg [gM 39 3, ⟨gO, .sub 40 true 0 (.s 39) (some (gI 1)) none⟩, gM 3 40]) .skip)) (.seq (.seq (gQ [gM 41 3, gC 42 50 [.s 41], ⟨gO, .un 43 .not (.s 42)⟩]) (.cond (.s 43) (.seq (gQ [⟨gO, .mov 2 (.k (.bool false))⟩]) .ret) .skip)) (.reg [⟨gO, .mov 3 (gS ⟨#[]⟩)⟩]))))) (.reg [gM 12 4, gU 13 .add 12 1, gM 4 13])))))) (.seq (gQ [⟨gO, .mov 2 (.k (.bool true))⟩]) .ret))))
def a_ref10_Name : AFn := ⟨1, 44, b_ref10_Name, [.tmp 2]⟩
theorem a_ref10_Name_ok : fnAF Tryz.prog [] Tryz.f16 = some a_ref10_Name := by kernel_rfl
theorem a_ref10_Name_cb : callable Tryz.prog 16 = true := by kernel_rfl
def b_ref10_Sorted : ACode :=
 .seq (gQ [⟨gO, .mov 2 (.k (.lst .nil 2 []))⟩]) (.seq (gQ [⟨gO, .mov 3 (.k (.lst .nil 2 []))⟩]) (.seq (.seq (gQ [gJ 4 0]) (.block 0 (.loop (.seq (.seq (gQ [gM 7 4, gM 8 0, gH 9 false 8, gV 10 .lss 7 9]) (.cond (.s 10) .skip (.exit 0))) (.seq (.block 1 (.seq (gQ [gJ 5 0]) (.seq (.block 2 (.loop (.seq (.seq (gQ [gM 13 5, gM 14 3, gH 15 false 14, gV 16 .lss 13 15, gM 17 16, gN 17 true 18 3, gN 17 true 19 5, ⟨some (17, true), .idx 20 2 (.s 18) (.s 19)⟩, ⟨some (17, true), .off 21 0 (.s 20)⟩, ⟨some (17, true), .ld 22 1 false (.s 21)⟩, gN 17 true 23 0, gN 17 true 24 4, ⟨some (17, true), .idx 25 2 (.s 23) (.s 24)⟩, ⟨some (17, true), .off 26 0 (.s 25)⟩, ⟨some (17, true), .ld 27 1 false (.s 26)⟩, ⟨some (17, true), .bin 28 .lss false (.s 22) (.s 27)⟩, ⟨gO, .pick 29 (.s 17) (.s 28) (.k (.bool false))⟩]) (.cond (.s 29) .skip (.exit 2))) (.block 3 (.reg [gM 30 5, gU 31 .add 30 1, gM 5 31]))))) (.seq (gQ [⟨gO, .mov 6 (.k (.lst .nil 2 []))⟩]) (.seq (gQ [gM 32 6, gM 33 3, gM 34 5, ⟨gO, .sub 35 false 2 (.s 33) none (some (.s 34))⟩, ⟨gO, .app 36 2 32 (.s 32) (.s 35)⟩, gM 6 36]) (.seq (gQ [gM 37 6, gM 38 0, gM 39 4, gE 40 2 38 39, gA 41 2 40, ⟨gO, .bsl 42 1 2 [.str ⟨#[]⟩, .str ⟨#[]⟩] [(0, 2, .s 41)]⟩, ⟨gO, .app 43 2 32 (.s 37) (.s 42)⟩, gM 6 43]) (.reg [gM 44 6, gM 45 3, gM 46 5, ⟨gO, .sub 47 false 2 (.s 45) (some (.s 46)) none⟩, ⟨gO, .app 48 2 32 (.s 44) (.s 47)⟩, gM 3 48]))))))) (.reg [gM 11 4, gU 12 .add 11 1, gM 4 12])))))) (.seq (gQ [gM 49 3, gM 2 49]) .ret)))
def a_ref10_Sorted : AFn := ⟨1, 50, b_ref10_Sorted, [.tmp 2]⟩
theorem a_ref10_Sorted_ok : fnAF Tryz.prog [] Tryz.f12 = some a_ref10_Sorted := by kernel_rfl
theorem a_ref10_Sorted_cb : callable Tryz.prog 12 = true := by kernel_rfl
end Go.Proofs.YtbfiopoefbbknaaGreatDoor
namespace Go.Proofs.YtbfiopoefbbknaaGreatDoor
open Go.RowKit
def vTxt (s : ByteArray) : V := .mk 3 false 0 s [] []
def packE (nameB : ByteArray → Bool) (eN : Int) : List (ByteArray × ByteArray) → List (ByteArray × V) → List (ByteArray × V) × Int
 | [], m => (m, 0)
 | (n, t) :: l, m => if nameB n = false then ([], eN) else if textB t = false then ([], 10) else if (mfind n m).isSome = true then ([], 13) else packE nameB eN l (minsert n (vTxt t) m)
def packP (nameB : ByteArray → Bool) (eN : Int) (emitP : List (ByteArray × V) → ByteArray) (l : List (ByteArray × ByteArray)) : ByteArray × Int :=
 if 32 < l.length then (⟨#[]⟩, 6) else if (packE nameB eN l []).2 ≠ 0 then (⟨#[]⟩, (packE nameB eN l []).2)
 else if 65536 < (emitP (packE nameB eN l []).1).size then (⟨#[]⟩, 6) else (emitP (packE nameB eN l []).1, 0)
end Go.Proofs.YtbfiopoefbbknaaGreatDoor
namespace Go.Proofs.YtbfiopoefbbknaaGreatDoor
set_option maxRecDepth 100000
def b_ref04_Digits : ACode :=
 .seq (gQ [⟨gO, .mov 2 (gS ⟨#[]⟩)⟩]) (.seq (gQ [⟨gO, .mov 3 (gS ⟨#[]⟩)⟩]) (.seq (gQ [gM 6 0, gU 7 .lss 6 0, gM 4 7]) (.seq (.block 0 (.loop (.block 1 (.seq (gQ [gM 8 0, gU 9 .rem 8 10, gM 5 9]) (.seq (.seq (gQ [gM 10 5, gU 11 .lss 10 0]) (.cond (.s 11) (.reg [gM 12 5, ⟨gO, .un 13 .neg (.s 12)⟩, gM 5 13]) .skip)) (.seq (gQ [gM 14 5, ⟨gO, gB 15 .add (gI 48) (.s 14)⟩, ⟨gO, .conv 16 .u8 (.s 15)⟩, ⟨gO, .bsl 17 1 1 [.int .u8 0] [(0, 1, .s 16)]⟩, ⟨gO, .b2s 18 (.s 17)⟩, gM 19 3, gV 20 .add 18 19, gM 3 20]) (.seq (gQ [gM 21 0, gU 22 .quo 21 10, gM 0 22]) (.seq (gQ [gM 23 0, gU 24 .eql 23 0]) (.cond (.s 24) (.exit 0) .skip))))))))) (.seq (.seq (gQ [gM 25 4]) (.cond (.s 25) (.seq (gQ [gM 26 3, ⟨gO, gB 27 .add (gS ⟨#[45]⟩) (.s 26)⟩, gM 2 27]) .ret) .skip)) (.seq (gQ [gM 28 3, gM 2 28]) .ret)))))
def a_ref04_Digits : AFn := ⟨1, 29, b_ref04_Digits, [.tmp 2]⟩
theorem a_ref04_Digits_ok : fnAF Tryz.prog [] Tryz.f70 = some a_ref04_Digits := by kernel_rfl
theorem a_ref04_Digits_cb : callable Tryz.prog 70 = true := by kernel_rfl
end Go.Proofs.YtbfiopoefbbknaaGreatDoor
