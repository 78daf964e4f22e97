/-
  The texts that the claim wants, one behind the other: part 31.
-/
import Derived.Test.YtnpkejnaeemgjaaGreatDoorS30
import Derived.Test.YtnpkejnaeemgjaaGreatDoorRows
import Derived.Test.YtnpkejnaeemgjaaGreatDoorProg
import Derived.Test.YtnpkejnaeemgjaaGreatDoorChecked
import Derived.KernelRfl
set_option linter.unusedSimpArgs false
set_option linter.unusedVariables false
namespace Go.Proofs.YtnpkejnaeemgjaaGreatDoor
open Go.ChangeShapes Go.WideShapes Go.ChangeAt Go.RowKit Go.Deep
theorem own : ownKnob Tryz.prog.godebug = none := by kernel_rfl
theorem laidOut : laidOutB Tryz.prog = true := by kernel_rfl
theorem cellsS : Tryz.prog.cellsOf 9 = 1 := by kernel_rfl
theorem reach47 : reachBytes ≤ 140737488355328 := by decide
theorem str_wt {H : Type} {s : ByteArray} (h : WtOk (H := H) Tryz.prog 9 (.lit (.string s.data.toList))) : s.size ≤ 140737488355328 := by
 have := h s.data.toList.length (by simp [DataW.weights])
 have h2 := reach47
 have e : s.data.toList.length = s.size := by simp
 omega
theorem wt_arg {H : Type} {ts : List TypeId} {ds : List (DataW H)} (h : (DataW.weightsEach Tryz.prog ts ds).all (· ≤ reachBytes) = true) {j : Nat} {t : TypeId} {d : DataW H} (ht : ts[j]? = some t) (hd : ds[j]? = some d) : WtOk Tryz.prog t d := fun q hq => by
 have := List.all_eq_true.1 h q (DataW.weights_mem_each ht hd q hq)
 simpa using this
theorem RelPs.three {σ : Sg} {a b c : Value} {x y z : AV} (h1 : RelP σ a x) (h2 : RelP σ b y) (h3 : RelP σ c z) : RelPs σ [a, b, c] [x, y, z] := by
 refine ⟨rfl, fun j v w hv hu => ?_⟩
 rcases j with _ | _ | _ | j <;> simp at hv hu
 ·subst hv hu; exact h1
 ·subst hv hu; exact h2
 ·subst hv hu; exact h3
def setG (h : Array Obj) (g : Nat) (l : List Value) : Array Obj := h.modify g fun
 | .cells _ t frozen => .cells l.toArray t frozen
 | o => o
end Go.Proofs.YtnpkejnaeemgjaaGreatDoor
namespace Go.Proofs.YtnpkejnaeemgjaaGreatDoor
abbrev gi_acceptRanges : Nat := 4
abbrev gi_first : Nat := 3
end Go.Proofs.YtnpkejnaeemgjaaGreatDoor
namespace Go.Proofs.YtnpkejnaeemgjaaGreatDoor
open Go.ChangeShapes Go.WideShapes Go.ChangeAt Go.RowKit Go.Deep
def pinV : DataW Unit → List Value
 | .agg l => l.map fun
  | .lit (.int k z) => .int k z
  | _ => undef
 | _ => []
def pinV2 : DataW Unit → List Value
 | .agg l => l.flatMap pinV
 | _ => []
noncomputable def laidHeap0 (os : Os) : Array Obj := setG (setG (setG (World.holding Tryz.prog os ⟨#[], #[], []⟩).heap gi_deBruijn32tab gv_deBruijn32tab) gi_deBruijn64tab gv_deBruijn64tab) gi_uint64pow10 gv_uint64pow10
noncomputable def laidHeap (os : Os) : Array Obj := setG (setG (laidHeap0 os) gi_first (pinV Rows.laid_unicode_utf8_first)) gi_acceptRanges (pinV2 Rows.laid_unicode_utf8_acceptRanges)
noncomputable def laidWorld (os : Os) : World :=
 { World.holding Tryz.prog os ⟨#[], #[], []⟩ with heap := setG (setG (laidHeap os) gi_ErrRange [.iface 244 (.pointer (some ⟨(laidHeap os).size, 0, none⟩))]) gi_ErrSyntax [.iface 244 (.pointer (some ⟨(laidHeap os).size + 1, 0, none⟩))]
    ++ #[.cells #[.string ⟨#[118, 97, 108, 117, 101, 32, 111, 117, 116, 32, 111, 102, 32, 114, 97, 110, 103, 101]⟩] 246 (0, 0), .cells #[.string ⟨#[105, 110, 118, 97, 108, 105, 100, 32, 115, 121, 110, 116, 97, 120]⟩] 246 (0, 0)] }
end Go.Proofs.YtnpkejnaeemgjaaGreatDoor
/-
 Values and lists of texts as arguments.
-/
namespace Go.Proofs.YtnpkejnaeemgjaaGreatDoor
open Go.ChangeShapes Go.WideShapes Go.ChangeAt Go.RowKit Go.Deep
theorem cellsTV : Tryz.prog.cellsOf 25 = 6 := by kernel_rfl
theorem cellsTP : Tryz.prog.cellsOf 58 = 7 := by kernel_rfl
theorem bytesTV : Tryz.prog.bytesOf 25 = 88 := by kernel_rfl
theorem bytesTP : Tryz.prog.bytesOf 58 = 104 := by kernel_rfl
theorem rowsV_map (l : List V) : rowsV l = l.map cellsV := by
 induction l with
 | nil => rfl
 | cons x l ih => simp [rowsV, ih]
theorem rowsM_map (l : List (ByteArray × V)) : rowsM l = l.map fun p => .str p.1 :: cellsV p.2 := by
 induction l with
 | nil => rfl
 | cons x l ih => obtain ⟨y, x⟩ := x; simp [rowsM, ih]
theorem cellsI : Tryz.prog.cellsOf 3 = 1 := by kernel_rfl
theorem cellsI64 : Tryz.prog.cellsOf 2 = 1 := by kernel_rfl
theorem cellsB : Tryz.prog.cellsOf 4 = 1 := by kernel_rfl
theorem cellsLV : Tryz.prog.cellsOf 22 = 1 := by kernel_rfl
theorem cellsLP : Tryz.prog.cellsOf 23 = 1 := by kernel_rfl
theorem sl_all {α : Type} {size : Nat} {R : List Value → α → Prop} {w : World} {B : Nat} {v : Value} {l : List α} (h : Sl size R w B v l) {x : α} (hx : x ∈ l) : ∃ cs, R cs x := by
 obtain ⟨A, cap, _, _, hat⟩ := h
 obtain ⟨i, hi⟩ := List.getElem?_of_mem hx
 obtain ⟨_, _, _, _, cs, _, h2, _⟩ := hat i x hi
 exact ⟨cs, h2⟩
theorem okWide_structR {P : Program} {w : World} {r : Reach} {base : Nat} {t : TypeId} {v : Value} {fs : Array Field} (ht : P.underlying t = some (.struct fs)) (h : Value.okWide P w r base t v) : ∃ cs : Array Value, v = .agg cs := by
 simp only [Value.okWide, ht] at h
 obtain ⟨cs, h1, _⟩ := h
 exact ⟨cs, h1⟩
end Go.Proofs.YtnpkejnaeemgjaaGreatDoor
namespace Go.Proofs.YtnpkejnaeemgjaaGreatDoor
set_option maxRecDepth 100000
def b_ref04_Digits : ACode :=
 .seq (gQ [⟨gO, .mov 2 (gS ⟨#[]⟩)⟩]) (.seq (gQ [⟨gO, .mov 3 (gS ⟨#[]⟩)⟩]) (.seq (gQ [gM 6 0, gU 7 .lss 6 0, gM 4 7]) (.seq (.block 0 (.loop (.block 1 (.seq (gQ [gM 8 0, gU 9 .rem 8 10, gM 5 9]) (.seq (.seq (gQ [gM 10 5, gU 11 .lss 10 0]) (.cond (.s 11) (.reg [gM 12 5, ⟨gO, .un 13 .neg (.s 12)⟩, gM 5 13]) .skip)) (.seq (gQ [gM 14 5, ⟨gO, gB 15 .add (gI 48) (.s 14)⟩, ⟨gO, .conv 16 .u8 (.s 15)⟩, ⟨gO, .bsl 17 1 1 [.int .u8 0] [(0, 1, .s 16)]⟩, ⟨gO, .b2s 18 (.s 17)⟩, gM 19 3, gV 20 .add 18 19, gM 3 20]) (.seq (gQ [gM 21 0, gU 22 .quo 21 10, gM 0 22]) (.seq (gQ [gM 23 0, gU 24 .eql 23 0]) (.cond (.s 24) (.exit 0) .skip))))))))) (.seq (.seq (gQ [gM 25 4]) (.cond (.s 25) (.seq (gQ [gM 26 3, ⟨gO, gB 27 .add (gS ⟨#[45]⟩) (.s 26)⟩, gM 2 27]) .ret) .skip)) (.seq (gQ [gM 28 3, gM 2 28]) .ret)))))
def a_ref04_Digits : AFn := ⟨1, 29, b_ref04_Digits, [.tmp 2]⟩
theorem a_ref04_Digits_ok : fnAF Tryz.prog [] Tryz.f48 = some a_ref04_Digits := by kernel_rfl
theorem a_ref04_Digits_cb : callable Tryz.prog 48 = true := by kernel_rfl
end Go.Proofs.YtnpkejnaeemgjaaGreatDoor
