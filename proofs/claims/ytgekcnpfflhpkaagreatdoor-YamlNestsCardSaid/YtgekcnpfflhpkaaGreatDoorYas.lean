/-
  A world for the witness: the listed variables laid.
-/
import Derived.Test.YtgekcnpfflhpkaaGreatDoorArg
import Derived.Test.YtgekcnpfflhpkaaGreatDoorGl
import Derived.Test.YtgekcnpfflhpkaaGreatDoorEnc
import Derived.Test.YtgekcnpfflhpkaaGreatDoorPure
namespace Go.Proofs.YtgekcnpfflhpkaaGreatDoor
set_option linter.unusedSimpArgs false
set_option linter.unusedVariables false
open Go.ChangeShapes Go.WideShapes Go.ChangeAt Go.RowKit Go.Deep

def pinV : DataW Unit → List Value
  | .agg l => l.map fun
    | .lit (.int k z) => .int k z
    | _ => undef
  | _ => []
def pinV2 : DataW Unit → List Value
  | .agg l => l.flatMap pinV
  | _ => []
noncomputable def laidHeap0 (os : Os) : Array Obj := setG (setG (setG (World.holding Tryz.prog os ⟨#[], #[], []⟩).heap gi_deBruijn32tab gv_deBruijn32tab) gi_deBruijn64tab gv_deBruijn64tab) gi_uint64pow10 gv_uint64pow10
noncomputable def laidHeap (os : Os) : Array Obj := setG (setG (laidHeap0 os) 1 (pinV Rows.laid_unicode_utf8_first)) 2 (pinV2 Rows.laid_unicode_utf8_acceptRanges)
noncomputable def laidWorld (os : Os) : World :=
  { World.holding Tryz.prog os ⟨#[], #[], []⟩ with heap := setG (setG (laidHeap os) gi_ErrRange [.iface 177 (.pointer (some ⟨(laidHeap os).size, 0, none⟩))]) gi_ErrSyntax [.iface 177 (.pointer (some ⟨(laidHeap os).size + 1, 0, none⟩))]
      ++ #[.cells #[.string ⟨#[118, 97, 108, 117, 101, 32, 111, 117, 116, 32, 111, 102, 32, 114, 97, 110, 103, 101]⟩] 179 (0, 0), .cells #[.string ⟨#[105, 110, 118, 97, 108, 105, 100, 32, 115, 121, 110, 116, 97, 120]⟩] 179 (0, 0)] }
theorem RelPs.one {σ : Sg} {a : Value} {x : AV} (h : RelP σ a x) : RelPs σ [a] [x] := by
  refine ⟨rfl, fun j v w hv hu => ?_⟩
  rcases j with _ | j <;> simp at hv hu
  subst hv hu; exact h
end Go.Proofs.YtgekcnpfflhpkaaGreatDoor
/-
  Values and lists of texts as arguments.
-/
namespace Go.Proofs.YtgekcnpfflhpkaaGreatDoor
set_option linter.unusedSimpArgs false
set_option linter.unusedVariables false
open Go.ChangeShapes Go.WideShapes Go.ChangeAt Go.RowKit Go.Deep

theorem cellsTV : Tryz.prog.cellsOf 28 = 6 := by kernel_rfl
theorem cellsTP : Tryz.prog.cellsOf 44 = 7 := by kernel_rfl
theorem bytesTV : Tryz.prog.bytesOf 28 = 88 := by kernel_rfl
theorem bytesTP : Tryz.prog.bytesOf 44 = 104 := by kernel_rfl
theorem rowsV_map (l : List V) : rowsV l = l.map cellsV := by
  induction l with
  | nil => rfl
  | cons x l ih => simp [rowsV, ih]
theorem rowsM_map (l : List (ByteArray × V)) : rowsM l = l.map fun p => .str p.1 :: cellsV p.2 := by
  induction l with
  | nil => rfl
  | cons x l ih => obtain ⟨y, x⟩ := x; simp [rowsM, ih]
theorem cellsI : Tryz.prog.cellsOf 3 = 1 := by kernel_rfl
theorem cellsI64 : Tryz.prog.cellsOf 2 = 1 := by kernel_rfl
theorem cellsB : Tryz.prog.cellsOf 4 = 1 := by kernel_rfl
theorem cellsLV : Tryz.prog.cellsOf 25 = 1 := by kernel_rfl
theorem cellsLP : Tryz.prog.cellsOf 26 = 1 := by kernel_rfl
theorem sl_all {α : Type} {size : Nat} {R : List Value → α → Prop} {w : World} {B : Nat} {v : Value} {l : List α} (h : Sl size R w B v l) {x : α} (hx : x ∈ l) : ∃ cs, R cs x := by
  obtain ⟨A, cap, _, _, hat⟩ := h
  obtain ⟨i, hi⟩ := List.getElem?_of_mem hx
  obtain ⟨_, _, _, _, cs, _, h2, _⟩ := hat i x hi
  exact ⟨cs, h2⟩
theorem val_of_trod {H : Type} {enc : TypeId × Value → H} {w : World} {base : Nat} {spare : Nat → Bool} {held : Bool} : ∀ (n : Nat) (cs : List Value) (y : DataW H × List MemPlace),
    DataW.trod enc Tryz.prog w base spare held n 28 cs = some y → WtOk Tryz.prog 28 y.1 → ∃ v : V, RelL (σW w) cs (cellsV v) ∧ v.sb := by
  intro n
  induction n using Nat.strongRecOn with
  | _ n ih =>
    intro cs y h hw
    obtain ⟨xs, m, hm, hy, hl, hxl, hf⟩ := DataW.trod_struct Tryz.underlying28 h
    rw [cellsTV] at hl
    obtain ⟨c0, c1, c2, c3, c4, c5, rfl⟩ := list6 hl
    obtain ⟨x0, x1, x2, x3, x4, x5, rfl⟩ := list6 (show xs.length = 6 from hxl)
    rw [hy] at hw
    have f0 : DataW.trod enc Tryz.prog w base spare held m 3 (List.take (Tryz.prog.cellsOf 3) (List.drop 0 [c0, c1, c2, c3, c4, c5])) = some x0 := hf 0 _ rfl
    have f1 : DataW.trod enc Tryz.prog w base spare held m 4 (List.take (Tryz.prog.cellsOf 4) (List.drop 1 [c0, c1, c2, c3, c4, c5])) = some x1 := hf 1 _ rfl
    have f2 : DataW.trod enc Tryz.prog w base spare held m 2 (List.take (Tryz.prog.cellsOf 2) (List.drop 2 [c0, c1, c2, c3, c4, c5])) = some x2 := hf 2 _ rfl
    have f3 : DataW.trod enc Tryz.prog w base spare held m 9 (List.take (Tryz.prog.cellsOf 9) (List.drop 3 [c0, c1, c2, c3, c4, c5])) = some x3 := hf 3 _ rfl
    have f4 : DataW.trod enc Tryz.prog w base spare held m 25 (List.take (Tryz.prog.cellsOf 25) (List.drop 4 [c0, c1, c2, c3, c4, c5])) = some x4 := hf 4 _ rfl
    have f5 : DataW.trod enc Tryz.prog w base spare held m 26 (List.take (Tryz.prog.cellsOf 26) (List.drop 5 [c0, c1, c2, c3, c4, c5])) = some x5 := hf 5 _ rfl
    have w3 : WtOk Tryz.prog 9 x3.1 := WtOk.part Tryz.underlying28 hw (j := 3) rfl rfl
    have w4 : WtOk Tryz.prog 25 x4.1 := WtOk.part Tryz.underlying28 hw (j := 4) rfl rfl
    have w5 : WtOk Tryz.prog 26 x5.1 := WtOk.part Tryz.underlying28 hw (j := 5) rfl rfl
    simp only [cellsI, cellsI64, cellsB, cellsS, cellsLV, cellsLP, List.drop_succ_cons, List.drop_zero, List.take_succ_cons, List.take_zero] at f0 f1 f2 f3 f4 f5
    obtain ⟨k, e0, _⟩ := DataW.trod_int Tryz.underlying3 f0
    obtain ⟨b, e1, _⟩ := DataW.trod_bool Tryz.underlying4 f1
    obtain ⟨i, e2, _⟩ := DataW.trod_int Tryz.underlying2 f2
    obtain ⟨s, e3, hx3, _⟩ := DataW.trod_string Tryz.underlying9 f3
    injection e0 with e0; injection e1 with e1; injection e2 with e2; injection e3 with e3
    subst e0 e1 e2 e3
    rw [hx3] at w3
    obtain ⟨l, hl1, hl2⟩ := sl_of_trodW (R := fun cs (v : V) => RelL (σW w) cs (cellsV v) ∧ v.sb) Tryz.underlying25 cellsTV (by decide) f4 w4 (fun n' cs y hn h hw => ih n' (by omega) cs y h hw)
    obtain ⟨mm, hm1, hm2⟩ := sl_of_trodW (R := fun cs (p : ByteArray × V) => RelL (σW w) cs (.str p.1 :: cellsV p.2) ∧ p.1.size ≤ 140737488355328 ∧ p.2.sb) Tryz.underlying26 cellsTP (by decide) f5 w5 (fun n' cs y hn h hw => by
      obtain ⟨xs, m', hm', hy, hl, hxl, hf⟩ := DataW.trod_struct Tryz.underlying44 h
      rw [cellsTP] at hl
      obtain ⟨d0, d1, d2, d3, d4, d5, d6, rfl⟩ := list7 hl
      obtain ⟨z0, z1, rfl⟩ : ∃ a b, xs = [a, b] := by
        have hxl : xs.length = 2 := hxl
        rcases xs with _ | ⟨a, _ | ⟨b, _ | ⟨c, l⟩⟩⟩ <;> simp at hxl
        exact ⟨a, b, rfl⟩
      rw [hy] at hw
      have g0 : DataW.trod enc Tryz.prog w base spare held m' 9 (List.take (Tryz.prog.cellsOf 9) (List.drop 0 [d0, d1, d2, d3, d4, d5, d6])) = some z0 := hf 0 _ rfl
      have g1 : DataW.trod enc Tryz.prog w base spare held m' 28 (List.take (Tryz.prog.cellsOf 28) (List.drop 1 [d0, d1, d2, d3, d4, d5, d6])) = some z1 := hf 1 _ rfl
      have v0 : WtOk Tryz.prog 9 z0.1 := WtOk.part Tryz.underlying44 hw (j := 0) rfl rfl
      have v1 : WtOk Tryz.prog 28 z1.1 := WtOk.part Tryz.underlying44 hw (j := 1) rfl rfl
      simp only [cellsS, cellsTV, List.drop_succ_cons, List.drop_zero, List.take_succ_cons, List.take_zero] at g0 g1
      obtain ⟨y, e0, hz0, _⟩ := DataW.trod_string Tryz.underlying9 g0
      injection e0 with e0
      subst e0
      rw [hz0] at v0
      obtain ⟨v, hv1, hv2⟩ := ih m' (by omega) _ z1 g1 v1
      exact ⟨(y, v), .cons (.str y) hv1, str_wt v0, hv2⟩)
    rw [bytesTV] at hl2
    rw [bytesTP] at hm2
    have h47 := reach47
    refine ⟨.mk k b i s l mm, ?_, ?_⟩
    · rw [cellsV]
      refine .cons (.int _ _) (.cons (.bool _) (.cons (.int _ _) (.cons (.str _) (.cons ?_ (.cons ?_ .nil)))))
      · rw [rowsV_map]; exact rel_of_sl hl1 cellsV fun cs x h => h.1
      · rw [rowsM_map]; exact rel_of_sl hm1 (fun p => .str p.1 :: cellsV p.2) fun cs x h => h.1
    · rw [V.sb]
      refine ⟨str_wt w3, ⟨by omega, by omega⟩, (sbL_iff l).2 fun x hx => ?_, (sbM_iff mm).2 fun p hp => ?_⟩
      · obtain ⟨cs, h⟩ := sl_all hl1 hx; exact h.2
      · obtain ⟨cs, h⟩ := sl_all hm1 hp; exact h.2
theorem okWide_structR {P : Program} {w : World} {r : Reach} {base : Nat} {t : TypeId} {v : Value} {fs : Array Field} (ht : P.underlying t = some (.struct fs)) (h : Value.okWide P w r base t v) : ∃ cs : Array Value, v = .agg cs := by
  simp only [Value.okWide, ht] at h
  obtain ⟨cs, h1, _⟩ := h
  exact ⟨cs, h1⟩
theorem val_arg {H : Type} {enc : TypeId × Value → H} {W : World} {base : Nat} {spare : Nat → Bool} {held : Bool} {v : Value} {d : DataW H} {p : List MemPlace} (hv : ∃ cs : Array Value, v = .agg cs) (h : DataW.Trod enc Tryz.prog W base spare held 28 v d p) (hw : WtOk Tryz.prog 28 d) :
    ∃ u : V, RelP (σW W) v (.agg [.int .i64 (u).kind, .bool (u).b, .int .i64 (u).n, .str (u).s, .lst .any 6 (rowsV (u).l), .lst .any 7 (rowsM (u).m)]) ∧ u.sb := by
  obtain ⟨cs, rfl⟩ := hv
  obtain ⟨fuel, hf⟩ := h
  obtain ⟨u, h1, h2⟩ := val_of_trod fuel _ _ hf hw
  rw [cellsV_eq] at h1
  exact ⟨u, ⟨cs.toList, by simp, h1⟩, h2⟩
theorem strs_arg {H : Type} {enc : TypeId × Value → H} {w : World} {base : Nat} {spare : Nat → Bool} {held : Bool} {v : Value} {d : DataW H} {p : List MemPlace} (hv : ∃ a n c, v = .slice a n c) (h : DataW.Trod enc Tryz.prog w base spare held 37 v d p) (hw : WtOk Tryz.prog 37 d) :
    ∃ l : List ByteArray, Rel1 (σW w) v (.lst .any 1 (l.map fun s => [.str s])) ∧ ∀ s ∈ l, s.size ≤ 140737488355328 := by
  obtain ⟨a, n, c, rfl⟩ := hv
  obtain ⟨fuel, hf⟩ := h
  obtain ⟨l, hl, _⟩ := sl_of_trodW (R := fun cs (s : ByteArray) => cs = [.string s] ∧ s.size ≤ 140737488355328) (x := (d, p)) Tryz.underlying37 cellsS (by decide) (v := .slice a n c) (fuel := fuel) (by simpa [Value.cells] using hf) hw (fun n cs y _ h hw => by
    obtain ⟨s, e, hx, _⟩ := DataW.trod_string Tryz.underlying9 h
    rw [hx] at hw
    exact ⟨s, e, str_wt hw⟩)
  refine ⟨l, rel_of_sl hl (fun s => [.str s]) (fun cs s hcs => by obtain ⟨rfl, _⟩ := hcs; exact .cons (.str _) .nil), fun s hs => ?_⟩
  obtain ⟨cs, h⟩ := sl_all hl hs
  exact h.2
end Go.Proofs.YtgekcnpfflhpkaaGreatDoor
