/-
  What the laws on values take in: a value of the document's, as one of ours.
-/
import Derived.Test.YtgcodocajgdmcaaGreatDoorArg
import Derived.Test.YtgcodocajgdmcaaGreatDoorEnc
import Derived.Test.YtgcodocajgdmcaaGreatDoorPure
namespace Go.Proofs.YtgcodocajgdmcaaGreatDoor
set_option linter.unusedSimpArgs false
set_option linter.unusedVariables false
open Go.ChangeShapes Go.WideShapes Go.ChangeAt Go.RowKit Go.Deep

theorem cellsTV : Tryz.prog.cellsOf 27 = 6 := by kernel_rfl
theorem cellsTP : Tryz.prog.cellsOf 110 = 7 := by kernel_rfl
theorem bytesTV : Tryz.prog.bytesOf 27 = 88 := by kernel_rfl
theorem bytesTP : Tryz.prog.bytesOf 110 = 104 := by kernel_rfl
theorem rowsV_map (l : List V) : rowsV l = l.map cellsV := by
  induction l with
  | nil => rfl
  | cons x l ih => simp [rowsV, ih]
theorem rowsM_map (l : List (ByteArray × V)) : rowsM l = l.map fun p => .str p.1 :: cellsV p.2 := by
  induction l with
  | nil => rfl
  | cons x l ih => obtain ⟨y, x⟩ := x; simp [rowsM, ih]
theorem cellsI : Tryz.prog.cellsOf 3 = 1 := by kernel_rfl
theorem cellsI64 : Tryz.prog.cellsOf 2 = 1 := by kernel_rfl
theorem cellsB : Tryz.prog.cellsOf 4 = 1 := by kernel_rfl
theorem cellsLV : Tryz.prog.cellsOf 24 = 1 := by kernel_rfl
theorem cellsLP : Tryz.prog.cellsOf 25 = 1 := by kernel_rfl
theorem sl_all {α : Type} {size : Nat} {R : List Value → α → Prop} {w : World} {B : Nat} {v : Value} {l : List α} (h : Sl size R w B v l) {x : α} (hx : x ∈ l) : ∃ cs, R cs x := by
  obtain ⟨A, cap, _, _, hat⟩ := h
  obtain ⟨i, hi⟩ := List.getElem?_of_mem hx
  obtain ⟨_, _, _, _, cs, _, h2, _⟩ := hat i x hi
  exact ⟨cs, h2⟩
theorem val_of_trod {H : Type} {enc : TypeId × Value → H} {w : World} {base : Nat} {spare : Nat → Bool} {held : Bool} : ∀ (n : Nat) (cs : List Value) (y : DataW H × List MemPlace),
    DataW.trod enc Tryz.prog w base spare held n 27 cs = some y → WtOk Tryz.prog 27 y.1 → ∃ v : V, RelL (σW w) cs (cellsV v) ∧ v.sb := by
  intro n
  induction n using Nat.strongRecOn with
  | _ n ih =>
    intro cs y h hw
    obtain ⟨xs, m, hm, hy, hl, hxl, hf⟩ := DataW.trod_struct Tryz.underlying27 h
    rw [cellsTV] at hl
    obtain ⟨c0, c1, c2, c3, c4, c5, rfl⟩ := list6 hl
    obtain ⟨x0, x1, x2, x3, x4, x5, rfl⟩ := list6 (show xs.length = 6 from hxl)
    rw [hy] at hw
    have f0 : DataW.trod enc Tryz.prog w base spare held m 3 (List.take (Tryz.prog.cellsOf 3) (List.drop 0 [c0, c1, c2, c3, c4, c5])) = some x0 := hf 0 _ rfl
    have f1 : DataW.trod enc Tryz.prog w base spare held m 4 (List.take (Tryz.prog.cellsOf 4) (List.drop 1 [c0, c1, c2, c3, c4, c5])) = some x1 := hf 1 _ rfl
    have f2 : DataW.trod enc Tryz.prog w base spare held m 2 (List.take (Tryz.prog.cellsOf 2) (List.drop 2 [c0, c1, c2, c3, c4, c5])) = some x2 := hf 2 _ rfl
    have f3 : DataW.trod enc Tryz.prog w base spare held m 9 (List.take (Tryz.prog.cellsOf 9) (List.drop 3 [c0, c1, c2, c3, c4, c5])) = some x3 := hf 3 _ rfl
    have f4 : DataW.trod enc Tryz.prog w base spare held m 24 (List.take (Tryz.prog.cellsOf 24) (List.drop 4 [c0, c1, c2, c3, c4, c5])) = some x4 := hf 4 _ rfl
    have f5 : DataW.trod enc Tryz.prog w base spare held m 25 (List.take (Tryz.prog.cellsOf 25) (List.drop 5 [c0, c1, c2, c3, c4, c5])) = some x5 := hf 5 _ rfl
    have w3 : WtOk Tryz.prog 9 x3.1 := WtOk.part Tryz.underlying27 hw (j := 3) rfl rfl
    have w4 : WtOk Tryz.prog 24 x4.1 := WtOk.part Tryz.underlying27 hw (j := 4) rfl rfl
    have w5 : WtOk Tryz.prog 25 x5.1 := WtOk.part Tryz.underlying27 hw (j := 5) rfl rfl
    simp only [cellsI, cellsI64, cellsB, cellsS, cellsLV, cellsLP, List.drop_succ_cons, List.drop_zero, List.take_succ_cons, List.take_zero] at f0 f1 f2 f3 f4 f5
    obtain ⟨k, e0, _⟩ := DataW.trod_int Tryz.underlying3 f0
    obtain ⟨b, e1, _⟩ := DataW.trod_bool Tryz.underlying4 f1
    obtain ⟨i, e2, _⟩ := DataW.trod_int Tryz.underlying2 f2
    obtain ⟨s, e3, hx3, _⟩ := DataW.trod_string Tryz.underlying9 f3
    injection e0 with e0; injection e1 with e1; injection e2 with e2; injection e3 with e3
    subst e0 e1 e2 e3
    rw [hx3] at w3
    obtain ⟨l, hl1, hl2⟩ := sl_of_trodW (R := fun cs (v : V) => RelL (σW w) cs (cellsV v) ∧ v.sb) Tryz.underlying24 cellsTV (by decide) f4 w4 (fun n' cs y hn h hw => ih n' (by omega) cs y h hw)
    obtain ⟨mm, hm1, hm2⟩ := sl_of_trodW (R := fun cs (p : ByteArray × V) => RelL (σW w) cs (.str p.1 :: cellsV p.2) ∧ p.1.size ≤ 140737488355328 ∧ p.2.sb) Tryz.underlying25 cellsTP (by decide) f5 w5 (fun n' cs y hn h hw => by
      obtain ⟨xs, m', hm', hy, hl, hxl, hf⟩ := DataW.trod_struct Tryz.underlying110 h
      rw [cellsTP] at hl
      obtain ⟨d0, d1, d2, d3, d4, d5, d6, rfl⟩ := list7 hl
      obtain ⟨z0, z1, rfl⟩ : ∃ a b, xs = [a, b] := by
        have hxl : xs.length = 2 := hxl
        rcases xs with _ | ⟨a, _ | ⟨b, _ | ⟨c, l⟩⟩⟩ <;> simp at hxl
        exact ⟨a, b, rfl⟩
      rw [hy] at hw
      have g0 : DataW.trod enc Tryz.prog w base spare held m' 9 (List.take (Tryz.prog.cellsOf 9) (List.drop 0 [d0, d1, d2, d3, d4, d5, d6])) = some z0 := hf 0 _ rfl
      have g1 : DataW.trod enc Tryz.prog w base spare held m' 27 (List.take (Tryz.prog.cellsOf 27) (List.drop 1 [d0, d1, d2, d3, d4, d5, d6])) = some z1 := hf 1 _ rfl
      have v0 : WtOk Tryz.prog 9 z0.1 := WtOk.part Tryz.underlying110 hw (j := 0) rfl rfl
      have v1 : WtOk Tryz.prog 27 z1.1 := WtOk.part Tryz.underlying110 hw (j := 1) rfl rfl
      simp only [cellsS, cellsTV, List.drop_succ_cons, List.drop_zero, List.take_succ_cons, List.take_zero] at g0 g1
      obtain ⟨y, e0, hz0, _⟩ := DataW.trod_string Tryz.underlying9 g0
      injection e0 with e0
      subst e0
      rw [hz0] at v0
      obtain ⟨v, hv1, hv2⟩ := ih m' (by omega) _ z1 g1 v1
      exact ⟨(y, v), .cons (.str y) hv1, str_wt v0, hv2⟩)
    rw [bytesTV] at hl2
    rw [bytesTP] at hm2
    have h47 := reach47
    refine ⟨.mk k b i s l mm, ?_, ?_⟩
    · rw [cellsV]
      refine .cons (.int _ _) (.cons (.bool _) (.cons (.int _ _) (.cons (.str _) (.cons ?_ (.cons ?_ .nil)))))
      · rw [rowsV_map]; exact rel_of_sl hl1 cellsV fun cs x h => h.1
      · rw [rowsM_map]; exact rel_of_sl hm1 (fun p => .str p.1 :: cellsV p.2) fun cs x h => h.1
    · rw [V.sb]
      refine ⟨str_wt w3, ⟨by omega, by omega⟩, (sbL_iff l).2 fun x hx => ?_, (sbM_iff mm).2 fun p hp => ?_⟩
      · obtain ⟨cs, h⟩ := sl_all hl1 hx; exact h.2
      · obtain ⟨cs, h⟩ := sl_all hm1 hp; exact h.2
theorem cellsID : Tryz.prog.cellsOf 23 = 3 := by kernel_rfl
theorem cellsTO : Tryz.prog.cellsOf 29 = 9 := by kernel_rfl
theorem list9 {α : Type} {l : List α} (h : l.length = 9) : ∃ a b c d e f g i j, l = [a, b, c, d, e, f, g, i, j] := by
  rcases l with _ | ⟨a, _ | ⟨b, _ | ⟨c, l⟩⟩⟩ <;> simp at h
  obtain ⟨d, e, f, g, i, j, rfl⟩ := list6 h
  exact ⟨_, _, _, _, _, _, _, _, _, rfl⟩
theorem id_of_trod {H : Type} {enc : TypeId × Value → H} {w : World} {base : Nat} {spare : Nat → Bool} {held : Bool} {n : Nat} {cs : List Value} {y : DataW H × List MemPlace} (h : DataW.trod enc Tryz.prog w base spare held n 23 cs = some y) (hw : WtOk Tryz.prog 23 y.1) :
    ∃ k s nm : ByteArray, cs = [.string k, .string s, .string nm] ∧ k.size ≤ 140737488355328 ∧ s.size ≤ 140737488355328 ∧ nm.size ≤ 140737488355328 := by
  obtain ⟨xs, m, hm, hy, hl, hxl, hf⟩ := DataW.trod_struct Tryz.underlying23 h
  rw [cellsID] at hl
  have hxl : xs.length = 3 := hxl
  obtain ⟨c0, c1, c2, rfl⟩ : ∃ a b c, cs = [a, b, c] := by
    rcases cs with _ | ⟨a, _ | ⟨b, _ | ⟨c, _ | ⟨d, l⟩⟩⟩⟩ <;> simp at hl
    exact ⟨a, b, c, rfl⟩
  obtain ⟨x0, x1, x2, rfl⟩ : ∃ a b c, xs = [a, b, c] := by
    rcases xs with _ | ⟨a, _ | ⟨b, _ | ⟨c, _ | ⟨d, l⟩⟩⟩⟩ <;> simp at hxl
    exact ⟨a, b, c, rfl⟩
  rw [hy] at hw
  have f0 : DataW.trod enc Tryz.prog w base spare held m 9 (List.take (Tryz.prog.cellsOf 9) (List.drop 0 [c0, c1, c2])) = some x0 := hf 0 _ rfl
  have f1 : DataW.trod enc Tryz.prog w base spare held m 9 (List.take (Tryz.prog.cellsOf 9) (List.drop 1 [c0, c1, c2])) = some x1 := hf 1 _ rfl
  have f2 : DataW.trod enc Tryz.prog w base spare held m 9 (List.take (Tryz.prog.cellsOf 9) (List.drop 2 [c0, c1, c2])) = some x2 := hf 2 _ rfl
  have w0 : WtOk Tryz.prog 9 x0.1 := WtOk.part Tryz.underlying23 hw (j := 0) rfl rfl
  have w1 : WtOk Tryz.prog 9 x1.1 := WtOk.part Tryz.underlying23 hw (j := 1) rfl rfl
  have w2 : WtOk Tryz.prog 9 x2.1 := WtOk.part Tryz.underlying23 hw (j := 2) rfl rfl
  simp only [cellsS, List.drop_succ_cons, List.drop_zero, List.take_succ_cons, List.take_zero] at f0 f1 f2
  obtain ⟨s0, e0, y0, _⟩ := DataW.trod_string Tryz.underlying9 f0
  obtain ⟨s1, e1, y1, _⟩ := DataW.trod_string Tryz.underlying9 f1
  obtain ⟨s2, e2, y2, _⟩ := DataW.trod_string Tryz.underlying9 f2
  injection e0 with e0; injection e1 with e1; injection e2 with e2
  subst e0 e1 e2
  rw [y0] at w0; rw [y1] at w1; rw [y2] at w2
  exact ⟨s0, s1, s2, rfl, str_wt w0, str_wt w1, str_wt w2⟩
/-- an object that is handed in -/
theorem obj_arg {H : Type} {enc : TypeId × Value → H} {W : World} {base : Nat} {spare : Nat → Bool} {held : Bool} {v : Value} {d : DataW H} {p : List MemPlace} (hv : ∃ cs : Array Value, v = .agg cs) (h : DataW.Trod enc Tryz.prog W base spare held 29 v d p) (hw : WtOk Tryz.prog 29 d) :
    ∃ (k s nm : ByteArray) (x : V), RelP (σW W) v (.agg ([.str k, .str s, .str nm] ++ cellsV x)) ∧ x.sb ∧ k.size ≤ 140737488355328 ∧ s.size ≤ 140737488355328 ∧ nm.size ≤ 140737488355328 := by
  obtain ⟨cs, rfl⟩ := hv
  obtain ⟨fuel, hf0⟩ := h
  obtain ⟨xs, m, _, hy, hl, hxl, hf⟩ := DataW.trod_struct Tryz.underlying29 hf0
  rw [cellsTO] at hl
  obtain ⟨c0, c1, c2, c3, c4, c5, c6, c7, c8, hcs⟩ := list9 hl
  rw [hcs] at hf
  have hxl : xs.length = 2 := hxl
  obtain ⟨x0, x1, rfl⟩ : ∃ a b, xs = [a, b] := by
    rcases xs with _ | ⟨a, _ | ⟨b, _ | ⟨c, l⟩⟩⟩ <;> simp at hxl
    exact ⟨a, b, rfl⟩
  have hd : d = .agg ([x0, x1].map (·.1)) := congrArg Prod.fst hy
  subst hd
  clear hf0
  have f0 : DataW.trod enc Tryz.prog W base spare held m 23 (List.take (Tryz.prog.cellsOf 23) (List.drop 0 [c0, c1, c2, c3, c4, c5, c6, c7, c8])) = some x0 := hf 0 _ rfl
  have f1 : DataW.trod enc Tryz.prog W base spare held m 27 (List.take (Tryz.prog.cellsOf 27) (List.drop 3 [c0, c1, c2, c3, c4, c5, c6, c7, c8])) = some x1 := hf 1 _ rfl
  have w0 : WtOk Tryz.prog 23 x0.1 := WtOk.part Tryz.underlying29 hw (j := 0) rfl rfl
  have w1 : WtOk Tryz.prog 27 x1.1 := WtOk.part Tryz.underlying29 hw (j := 1) rfl rfl
  simp only [cellsID, cellsTV, List.drop_succ_cons, List.drop_zero, List.take_succ_cons, List.take_zero] at f0 f1
  obtain ⟨k, s, nm, e, z0, z1, z2⟩ := id_of_trod f0 w0
  injection e with e0 e; injection e with e1 e; injection e with e2 e
  subst e0 e1 e2
  obtain ⟨x, hx, hxs⟩ := val_of_trod _ _ _ f1 w1
  refine ⟨k, s, nm, x, ⟨cs.toList, by simp, ?_⟩, hxs, z0, z1, z2⟩
  rw [show cs.toList = _ from hcs]
  exact .cons (.str _) (.cons (.str _) (.cons (.str _) hx))
end Go.Proofs.YtgcodocajgdmcaaGreatDoor
