/-
  The texts that the claim wants, one behind the other: part 12.
-/
import Derived.Test.YtgidajjjpeboeaaGreatDoorS11
import Derived.Test.YtgidajjjpeboeaaGreatDoorChecked
import Derived.KernelRfl
set_option linter.unusedSimpArgs false
set_option linter.unusedVariables false
namespace Go.Proofs.YtgidajjjpeboeaaGreatDoor
open Go.RowKit
structure Ob where
 k : ByteArray
 s : ByteArray
 n : ByteArray
 v : V
abbrev obC (o : Ob) : List AV := .str o.k :: .str o.s :: .str o.n :: vC o.v
def rowsO (l : List Ob) : List (List AV) := l.map fun o => obC o
theorem rowsO_len (l : List Ob) : (rowsO l).length = l.length := List.length_map _
theorem rowsO_at {l : List Ob} {k : Nat} {o : Ob} (h : l[k]? = some o) : (rowsO l)[k]? = some (obC o) := by simp [rowsO, h]
theorem rowsO_snoc (l : List Ob) (o : Ob) : rowsO (l ++ [o]) = rowsO l ++ [obC o] := by simp [rowsO]
end Go.Proofs.YtgidajjjpeboeaaGreatDoor
namespace Go.Proofs.YtgidajjjpeboeaaGreatDoor
open Go.ChangeShapes Go.WideShapes Go.ChangeAt Go.RowKit Go.Deep
theorem bytesTO : Tryz.prog.bytesOf 46 = 136 := by kernel_rfl
theorem objs_arg {H : Type} {enc : TypeId × Value → H} {w : World} {base : Nat} {spare : Nat → Bool} {held : Bool} {v : Value} {d : DataW H} {p : List MemPlace} (hv : ∃ a n c, v = .slice a n c) (h : DataW.Trod enc Tryz.prog w base spare held 38 v d p) (hw : WtOk Tryz.prog 38 d) :
  ∃ l : List Ob, Rel1 (σW w) v (.lst .any 9 (rowsO l)) ∧ l.length ≤ 1100000000000 ∧ ∀ o ∈ l, o.v.sb ∧ o.k.size ≤ 140737488355328 ∧ o.s.size ≤ 140737488355328 ∧ o.n.size ≤ 140737488355328 := by
 obtain ⟨a, n, c, rfl⟩ := hv
 obtain ⟨fuel, hf⟩ := h
 obtain ⟨l, hl, hb⟩ := sl_of_trodW (R := fun cs (o : Ob) => RelL (σW w) cs (obC o) ∧ o.v.sb ∧ o.k.size ≤ 140737488355328 ∧ o.s.size ≤ 140737488355328 ∧ o.n.size ≤ 140737488355328) (x := (d, p)) Tryz.underlying38 cellsTO (by decide) (v := .slice a n c) (fuel := fuel) (by simpa [Value.cells] using hf) hw (fun n cs y _ h hw => by
  obtain ⟨xs, m, hm, hy, hl, hxl, hf⟩ := DataW.trod_struct Tryz.underlying46 h
  rw [cellsTO] at hl
  obtain ⟨c0, c1, c2, c3, c4, c5, c6, c7, c8, rfl⟩ := list9 hl
  obtain ⟨x0, x1, rfl⟩ : ∃ a b, xs = [a, b] := by
   have hxl : xs.length = 2 := hxl
   rcases xs with _ | ⟨a, _ | ⟨b, _ | ⟨c, l⟩⟩⟩ <;> simp at hxl
   exact ⟨a, b, rfl⟩
  rw [hy] at hw
  have f0 : DataW.trod enc Tryz.prog w base spare held m 24 (List.take (Tryz.prog.cellsOf 24) (List.drop 0 [c0, c1, c2, c3, c4, c5, c6, c7, c8])) = some x0 := hf 0 _ rfl
  have f1 : DataW.trod enc Tryz.prog w base spare held m 28 (List.take (Tryz.prog.cellsOf 28) (List.drop 3 [c0, c1, c2, c3, c4, c5, c6, c7, c8])) = some x1 := hf 1 _ rfl
  have w0 : WtOk Tryz.prog 24 x0.1 := WtOk.part Tryz.underlying46 hw (j := 0) rfl rfl
  have w1 : WtOk Tryz.prog 28 x1.1 := WtOk.part Tryz.underlying46 hw (j := 1) rfl rfl
  simp only [cellsID, cellsTV, List.drop_succ_cons, List.drop_zero, List.take_succ_cons, List.take_zero] at f0 f1
  obtain ⟨k, s, nm, e, z0, z1, z2⟩ := id_of_trod f0 w0
  injection e with e0 e; injection e with e1 e; injection e with e2 e
  subst e0 e1 e2
  obtain ⟨x, hx, hxs⟩ := val_of_trod _ _ _ f1 w1
  refine ⟨⟨k, s, nm, x⟩, ?_, hxs, z0, z1, z2⟩
  rw [cellsV_eq] at hx
  exact .cons (.str _) (.cons (.str _) (.cons (.str _) hx)))
 refine ⟨l, rel_of_sl hl obC fun cs o h => h.1, ?_, fun o ho => ?_⟩
 ·rw [bytesTO] at hb
  have h3 : reachBytes = 140737488351232 := rfl
  omega
 ·obtain ⟨cs, h⟩ := sl_all hl ho
  exact h.2
end Go.Proofs.YtgidajjjpeboeaaGreatDoor
namespace Go.Proofs.YtgidajjjpeboeaaGreatDoor
set_option maxRecDepth 100000
def b_history_Releases : ACode :=
 .seq (gQ [⟨gO, .mov 2 (.k (.lst .nil 1 []))⟩]) (.seq (gQ [⟨gO, .mov 3 (.k (.lst .nil 1 []))⟩]) (.seq (.seq (gQ [gM 9 0, ⟨gO, .calls (some 10) (.k (.fn 11 [])) [.s 9]⟩, gH 11 false 10, gJ 12 0]) (.block 0 (.loop (.seq (gQ [gV 13 .lss 12 11]) (.seq (.cond (.s 13) .skip (.exit 0)) (.seq (.block 1 (.seq (gQ [gE 14 9 10 12, gA 15 9 14, ⟨gO, .alloc 5 [.str ⟨#[]⟩, .str ⟨#[]⟩, .str ⟨#[]⟩, .int .i64 0, .bool false, .int .i64 0, .str ⟨#[]⟩, .lst .nil 6 [], .lst .nil 7 []]⟩, gT 9 5 15]) (.seq (gQ [gF 17 0 5, gA 18 3 17, gC 19 21 [.s 18], gM 16 19, gX 20 0 16, gX 21 1 16, gX 22 2 16, gM 6 20, gM 7 21, gM 8 22]) (.seq (gQ [gM 23 8]) (.cond (.s 23) (.reg [gM 24 3, gM 25 6, ⟨gO, .bsl 26 1 1 [.str ⟨#[]⟩] [(0, 1, .s 25)]⟩, ⟨gO, .appr 27 1 16 (.s 24) (.s 26)⟩, gM 3 27]) .skip))))) (.reg [gU 28 .add 12 1, gM 12 28]))))))) (.seq (gQ [gM 29 3, ⟨gO, .calls (some 30) (.k (.fn 48 [])) [.s 29]⟩]) (.seq (gQ [gM 31 3, ⟨gO, .callr (some 32) (.k (.fn 49 [])) [.s 31]⟩, gM 2 32]) .ret))))
def a_history_Releases : AFn := ⟨1, 33, b_history_Releases, [.tmp 2]⟩
theorem a_history_Releases_ok : fnAF Tryz.prog [49, 2000011, 2000048, 4000027] Tryz.f19 = some a_history_Releases := by kernel_rfl
theorem a_history_Releases_cb : callable Tryz.prog 19 = true := by kernel_rfl
end Go.Proofs.YtgidajjjpeboeaaGreatDoor
