/-
  The texts that the claim wants, one behind the other: part 20.
-/
import Derived.Test.YtgekcnpfflhpkaaGreatDoorS19
import Derived.Test.YtgekcnpfflhpkaaGreatDoorRows
import Derived.Test.YtgekcnpfflhpkaaGreatDoorChecked
import Derived.KernelRfl
set_option linter.unusedSimpArgs false
set_option linter.unusedVariables false
namespace Go.Proofs.YtgekcnpfflhpkaaGreatDoor
open Go.ChangeShapes Go.WideShapes Go.ChangeAt Go.RowKit Go.Deep
theorem own : ownKnob Tryz.prog.godebug = none := by kernel_rfl
theorem laidOut : laidOutB Tryz.prog = true := by kernel_rfl
theorem cellsS : Tryz.prog.cellsOf 9 = 1 := by kernel_rfl
theorem reach47 : reachBytes ≤ 140737488355328 := by decide
theorem str_wt {H : Type} {s : ByteArray} (h : WtOk (H := H) Tryz.prog 9 (.lit (.string s.data.toList))) : s.size ≤ 140737488355328 := by
 have := h s.data.toList.length (by simp [DataW.weights])
 have h2 := reach47
 have e : s.data.toList.length = s.size := by simp
 omega
theorem wt_arg {H : Type} {ts : List TypeId} {ds : List (DataW H)} (h : (DataW.weightsEach Tryz.prog ts ds).all (· ≤ reachBytes) = true) {j : Nat} {t : TypeId} {d : DataW H} (ht : ts[j]? = some t) (hd : ds[j]? = some d) : WtOk Tryz.prog t d := fun q hq => by
 have := List.all_eq_true.1 h q (DataW.weights_mem_each ht hd q hq)
 simpa using this
theorem RelPs.two {σ : Sg} {a b : Value} {x y : AV} (h1 : RelP σ a x) (h2 : RelP σ b y) : RelPs σ [a, b] [x, y] := by
 refine ⟨rfl, fun j v w hv hu => ?_⟩
 rcases j with _ | _ | j <;> simp at hv hu
 ·subst hv hu; exact h1
 ·subst hv hu; exact h2
def setG (h : Array Obj) (g : Nat) (l : List Value) : Array Obj := h.modify g fun
 | .cells _ t frozen => .cells l.toArray t frozen
 | o => o
def pinV : DataW Unit → List Value
 | .agg l => l.map fun
  | .lit (.int k z) => .int k z
  | _ => undef
 | _ => []
def pinV2 : DataW Unit → List Value
 | .agg l => l.flatMap pinV
 | _ => []
noncomputable def laidHeap0 (os : Os) : Array Obj := setG (setG (setG (World.holding Tryz.prog os ⟨#[], #[], []⟩).heap gi_deBruijn32tab gv_deBruijn32tab) gi_deBruijn64tab gv_deBruijn64tab) gi_uint64pow10 gv_uint64pow10
noncomputable def laidHeap (os : Os) : Array Obj := setG (setG (laidHeap0 os) 1 (pinV Rows.laid_unicode_utf8_first)) 2 (pinV2 Rows.laid_unicode_utf8_acceptRanges)
noncomputable def laidWorld (os : Os) : World :=
 { World.holding Tryz.prog os ⟨#[], #[], []⟩ with heap := setG (setG (laidHeap os) gi_ErrRange [.iface 177 (.pointer (some ⟨(laidHeap os).size, 0, none⟩))]) gi_ErrSyntax [.iface 177 (.pointer (some ⟨(laidHeap os).size + 1, 0, none⟩))]
    ++ #[.cells #[.string ⟨#[118, 97, 108, 117, 101, 32, 111, 117, 116, 32, 111, 102, 32, 114, 97, 110, 103, 101]⟩] 179 (0, 0), .cells #[.string ⟨#[105, 110, 118, 97, 108, 105, 100, 32, 115, 121, 110, 116, 97, 120]⟩] 179 (0, 0)] }
theorem RelPs.one {σ : Sg} {a : Value} {x : AV} (h : RelP σ a x) : RelPs σ [a] [x] := by
 refine ⟨rfl, fun j v w hv hu => ?_⟩
 rcases j with _ | j <;> simp at hv hu
 subst hv hu; exact h
end Go.Proofs.YtgekcnpfflhpkaaGreatDoor
/-
 Values and lists of texts as arguments.
-/
namespace Go.Proofs.YtgekcnpfflhpkaaGreatDoor
open Go.ChangeShapes Go.WideShapes Go.ChangeAt Go.RowKit Go.Deep
theorem cellsTV : Tryz.prog.cellsOf 28 = 6 := by kernel_rfl
theorem cellsTP : Tryz.prog.cellsOf 44 = 7 := by kernel_rfl
theorem bytesTV : Tryz.prog.bytesOf 28 = 88 := by kernel_rfl
theorem bytesTP : Tryz.prog.bytesOf 44 = 104 := by kernel_rfl
theorem rowsV_map (l : List V) : rowsV l = l.map cellsV := by
 induction l with
 | nil => rfl
 | cons x l ih => simp [rowsV, ih]
theorem rowsM_map (l : List (ByteArray × V)) : rowsM l = l.map fun p => .str p.1 :: cellsV p.2 := by
 induction l with
 | nil => rfl
 | cons x l ih => obtain ⟨y, x⟩ := x; simp [rowsM, ih]
theorem cellsI : Tryz.prog.cellsOf 3 = 1 := by kernel_rfl
theorem cellsI64 : Tryz.prog.cellsOf 2 = 1 := by kernel_rfl
theorem cellsB : Tryz.prog.cellsOf 4 = 1 := by kernel_rfl
theorem cellsLV : Tryz.prog.cellsOf 25 = 1 := by kernel_rfl
theorem cellsLP : Tryz.prog.cellsOf 26 = 1 := by kernel_rfl
theorem sl_all {α : Type} {size : Nat} {R : List Value → α → Prop} {w : World} {B : Nat} {v : Value} {l : List α} (h : Sl size R w B v l) {x : α} (hx : x ∈ l) : ∃ cs, R cs x := by
 obtain ⟨A, cap, _, _, hat⟩ := h
 obtain ⟨i, hi⟩ := List.getElem?_of_mem hx
 obtain ⟨_, _, _, _, cs, _, h2, _⟩ := hat i x hi
 exact ⟨cs, h2⟩
theorem okWide_structR {P : Program} {w : World} {r : Reach} {base : Nat} {t : TypeId} {v : Value} {fs : Array Field} (ht : P.underlying t = some (.struct fs)) (h : Value.okWide P w r base t v) : ∃ cs : Array Value, v = .agg cs := by
 simp only [Value.okWide, ht] at h
 obtain ⟨cs, h1, _⟩ := h
 exact ⟨cs, h1⟩
end Go.Proofs.YtgekcnpfflhpkaaGreatDoor
namespace Go.Proofs.YtgekcnpfflhpkaaGreatDoor
set_option maxRecDepth 100000
def b_ref04_Digits : ACode :=
 .seq (.reg [⟨none, .mov 2 (.k (.str ⟨#[]⟩))⟩]) (.seq (.reg [⟨none, .mov 3 (.k (.str ⟨#[]⟩))⟩]) (.seq (.reg [⟨none, .mov 6 (.s 0)⟩, ⟨none, .bin 7 .lss false (.s 6) (.k (.int .i64 0))⟩, ⟨none, .mov 4 (.s 7)⟩]) (.seq (.block 0 (.loop (.block 1 (.seq (.reg [⟨none, .mov 8 (.s 0)⟩, ⟨none, .bin 9 .rem false (.s 8) (.k (.int .i64 10))⟩, ⟨none, .mov 5 (.s 9)⟩]) (.seq (.seq (.reg [⟨none, .mov 10 (.s 5)⟩, ⟨none, .bin 11 .lss false (.s 10) (.k (.int .i64 0))⟩]) (.cond (.s 11) (.reg [⟨none, .mov 12 (.s 5)⟩, ⟨none, .un 13 .neg (.s 12)⟩, ⟨none, .mov 5 (.s 13)⟩]) .skip)) (.seq (.reg [⟨none, .mov 14 (.s 5)⟩, ⟨none, .bin 15 .add false (.k (.int .i64 48)) (.s 14)⟩, ⟨none, .conv 16 .u8 (.s 15)⟩, ⟨none, .bsl 17 1 1 [.int .u8 0] [(0, 1, .s 16)]⟩, ⟨none, .b2s 18 (.s 17)⟩, ⟨none, .mov 19 (.s 3)⟩, ⟨none, .bin 20 .add false (.s 18) (.s 19)⟩, ⟨none, .mov 3 (.s 20)⟩]) (.seq (.reg [⟨none, .mov 21 (.s 0)⟩, ⟨none, .bin 22 .quo false (.s 21) (.k (.int .i64 10))⟩, ⟨none, .mov 0 (.s 22)⟩]) (.seq (.reg [⟨none, .mov 23 (.s 0)⟩, ⟨none, .bin 24 .eql false (.s 23) (.k (.int .i64 0))⟩]) (.cond (.s 24) (.exit 0) .skip))))))))) (.seq (.seq (.reg [⟨none, .mov 25 (.s 4)⟩]) (.cond (.s 25) (.seq (.reg [⟨none, .mov 26 (.s 3)⟩, ⟨none, .bin 27 .add false (.k (.str ⟨#[45]⟩)) (.s 26)⟩, ⟨none, .mov 2 (.s 27)⟩]) .ret) .skip)) (.seq (.reg [⟨none, .mov 28 (.s 3)⟩, ⟨none, .mov 2 (.s 28)⟩]) .ret)))))
def a_ref04_Digits : AFn := ⟨1, 29, b_ref04_Digits, [.tmp 2]⟩
theorem a_ref04_Digits_ok : fnAF Tryz.prog [] Tryz.f10 = some a_ref04_Digits := by kernel_rfl
theorem a_ref04_Digits_cb : callable Tryz.prog 10 = true := by kernel_rfl
end Go.Proofs.YtgekcnpfflhpkaaGreatDoor
