/-
  The texts that the claim wants, one behind the other: part 9.
-/
import Derived.Test.YtgidajjjpeboeaaGreatDoorS8
import Derived.Test.YtgidajjjpeboeaaGreatDoorRows
set_option linter.unusedSimpArgs false
set_option linter.unusedVariables false
namespace Go.Proofs.YtgidajjjpeboeaaGreatDoor
open Go.ChangeShapes Go.WideShapes Go.ChangeAt Go.RowKit Go.Deep
theorem own : ownKnob Tryz.prog.godebug = none := by kernel_rfl
theorem laidOut : laidOutB Tryz.prog = true := by kernel_rfl
theorem cellsS : Tryz.prog.cellsOf 9 = 1 := by kernel_rfl
theorem reach47 : reachBytes ≤ 140737488355328 := by decide
theorem str_wt {H : Type} {s : ByteArray} (h : WtOk (H := H) Tryz.prog 9 (.lit (.string s.data.toList))) : s.size ≤ 140737488355328 := by
 have := h s.data.toList.length (by simp [DataW.weights])
 have h2 := reach47
 have e : s.data.toList.length = s.size := by simp
 omega
theorem wt_arg {H : Type} {ts : List TypeId} {ds : List (DataW H)} (h : (DataW.weightsEach Tryz.prog ts ds).all (· ≤ reachBytes) = true) {j : Nat} {t : TypeId} {d : DataW H} (ht : ts[j]? = some t) (hd : ds[j]? = some d) : WtOk Tryz.prog t d := fun q hq => by
 have := List.all_eq_true.1 h q (DataW.weights_mem_each ht hd q hq)
 simpa using this
theorem RelPs.two {σ : Sg} {a b : Value} {x y : AV} (h1 : RelP σ a x) (h2 : RelP σ b y) : RelPs σ [a, b] [x, y] := by
 refine ⟨rfl, fun j v w hv hu => ?_⟩
 rcases j with _ | _ | j <;> simp at hv hu
 ·subst hv hu; exact h1
 ·subst hv hu; exact h2
def setG (h : Array Obj) (g : Nat) (l : List Value) : Array Obj := h.modify g fun
 | .cells _ t frozen => .cells l.toArray t frozen
 | o => o
end Go.Proofs.YtgidajjjpeboeaaGreatDoor
namespace Go.Proofs.YtgidajjjpeboeaaGreatDoor
open Go.RowKit
mutual
def cellsV : V → List AV
 | .mk k b n s l m => [.int .i64 k, .bool b, .int .i64 n, .str s, .lst .any 6 (rowsV l), .lst .any 7 (rowsM m)]
def rowsV : List V → List (List AV)
 | [] => []
 | x :: l => cellsV x :: rowsV l
def rowsM : List (ByteArray × V) → List (List AV)
 | [] => []
 | (y, x) :: m => (.str y :: cellsV x) :: rowsM m
end
abbrev vC (v : V) : List AV := [.int .i64 v.kind, .bool v.b, .int .i64 v.n, .str v.s, .lst .any 6 (rowsV v.l), .lst .any 7 (rowsM v.m)]
abbrev vA (v : V) : AV := .agg (vC v)
theorem cellsV_eq (v : V) : cellsV v = [.int .i64 v.kind, .bool v.b, .int .i64 v.n, .str v.s, .lst .any 6 (rowsV v.l), .lst .any 7 (rowsM v.m)] := by cases v; rfl
theorem rowsV_len (l : List V) : (rowsV l).length = l.length := by
 induction l with
 | nil => rfl
 | cons x l ih => simp [rowsV, ih]
theorem rowsM_len (l : List (ByteArray × V)) : (rowsM l).length = l.length := by
 induction l with
 | nil => rfl
 | cons x l ih => obtain ⟨y, x⟩ := x; simp [rowsM, ih]
theorem rowsV_at : ∀ {l : List V} {k : Nat} {x : V}, l[k]? = some x → (rowsV l)[k]? = some [.int .i64 x.kind, .bool x.b, .int .i64 x.n, .str x.s, .lst .any 6 (rowsV x.l), .lst .any 7 (rowsM x.m)]
 | y :: l, 0, x, h => by simp at h; subst h; rw [← cellsV_eq]; rfl
 | y :: l, k + 1, x, h => by simpa [rowsV] using rowsV_at (l := l) (k := k) (by simpa using h)
theorem rowsM_at : ∀ {l : List (ByteArray × V)} {k : Nat} {y : ByteArray} {x : V}, l[k]? = some (y, x) → (rowsM l)[k]? = some [.str y, .int .i64 x.kind, .bool x.b, .int .i64 x.n, .str x.s, .lst .any 6 (rowsV x.l), .lst .any 7 (rowsM x.m)]
 | (z, y) :: l, 0, w, x, h => by simp at h; obtain ⟨rfl, rfl⟩ := h; rw [rowsM, cellsV_eq]; rfl
 | (z, y) :: l, k + 1, w, x, h => by simpa [rowsM] using rowsM_at (l := l) (k := k) (by simpa using h)
theorem wrap_in {n : Int} (h0 : -9223372036854775808 ≤ n) (h1 : n ≤ 9223372036854775807) : IntKind.i64.wrap n = n := by
 have := IntWalk.i64_in n (by omega)
 exact this
end Go.Proofs.YtgidajjjpeboeaaGreatDoor
namespace Go.Proofs.YtgidajjjpeboeaaGreatDoor
open Go.ChangeShapes Go.WideShapes Go.ChangeAt Go.RowKit Go.Deep
theorem cellsTV : Tryz.prog.cellsOf 28 = 6 := by kernel_rfl
theorem cellsTP : Tryz.prog.cellsOf 116 = 7 := by kernel_rfl
theorem bytesTV : Tryz.prog.bytesOf 28 = 88 := by kernel_rfl
theorem bytesTP : Tryz.prog.bytesOf 116 = 104 := by kernel_rfl
theorem rowsV_map (l : List V) : rowsV l = l.map cellsV := by
 induction l with
 | nil => rfl
 | cons x l ih => simp [rowsV, ih]
theorem rowsM_map (l : List (ByteArray × V)) : rowsM l = l.map fun p => .str p.1 :: cellsV p.2 := by
 induction l with
 | nil => rfl
 | cons x l ih => obtain ⟨y, x⟩ := x; simp [rowsM, ih]
theorem cellsI : Tryz.prog.cellsOf 3 = 1 := by kernel_rfl
theorem cellsI64 : Tryz.prog.cellsOf 2 = 1 := by kernel_rfl
theorem cellsB : Tryz.prog.cellsOf 4 = 1 := by kernel_rfl
theorem cellsLV : Tryz.prog.cellsOf 25 = 1 := by kernel_rfl
theorem cellsLP : Tryz.prog.cellsOf 26 = 1 := by kernel_rfl
theorem sl_all {α : Type} {size : Nat} {R : List Value → α → Prop} {w : World} {B : Nat} {v : Value} {l : List α} (h : Sl size R w B v l) {x : α} (hx : x ∈ l) : ∃ cs, R cs x := by
 obtain ⟨A, cap, _, _, hat⟩ := h
 obtain ⟨i, hi⟩ := List.getElem?_of_mem hx
 obtain ⟨_, _, _, _, cs, _, h2, _⟩ := hat i x hi
 exact ⟨cs, h2⟩
theorem val_of_trod {H : Type} {enc : TypeId × Value → H} {w : World} {base : Nat} {spare : Nat → Bool} {held : Bool} : ∀ (n : Nat) (cs : List Value) (y : DataW H × List MemPlace),
  DataW.trod enc Tryz.prog w base spare held n 28 cs = some y → WtOk Tryz.prog 28 y.1 → ∃ v : V, RelL (σW w) cs (cellsV v) ∧ v.sb := by
 intro n
 induction n using Nat.strongRecOn with
 | _ n ih =>
  intro cs y h hw
  obtain ⟨xs, m, hm, hy, hl, hxl, hf⟩ := DataW.trod_struct Tryz.underlying28 h
  rw [cellsTV] at hl
  obtain ⟨c0, c1, c2, c3, c4, c5, rfl⟩ := list6 hl
  obtain ⟨x0, x1, x2, x3, x4, x5, rfl⟩ := list6 (show xs.length = 6 from hxl)
  rw [hy] at hw
  have f0 : DataW.trod enc Tryz.prog w base spare held m 3 (List.take (Tryz.prog.cellsOf 3) (List.drop 0 [c0, c1, c2, c3, c4, c5])) = some x0 := hf 0 _ rfl
  have f1 : DataW.trod enc Tryz.prog w base spare held m 4 (List.take (Tryz.prog.cellsOf 4) (List.drop 1 [c0, c1, c2, c3, c4, c5])) = some x1 := hf 1 _ rfl
  have f2 : DataW.trod enc Tryz.prog w base spare held m 2 (List.take (Tryz.prog.cellsOf 2) (List.drop 2 [c0, c1, c2, c3, c4, c5])) = some x2 := hf 2 _ rfl
  have f3 : DataW.trod enc Tryz.prog w base spare held m 9 (List.take (Tryz.prog.cellsOf 9) (List.drop 3 [c0, c1, c2, c3, c4, c5])) = some x3 := hf 3 _ rfl
  have f4 : DataW.trod enc Tryz.prog w base spare held m 25 (List.take (Tryz.prog.cellsOf 25) (List.drop 4 [c0, c1, c2, c3, c4, c5])) = some x4 := hf 4 _ rfl
  have f5 : DataW.trod enc Tryz.prog w base spare held m 26 (List.take (Tryz.prog.cellsOf 26) (List.drop 5 [c0, c1, c2, c3, c4, c5])) = some x5 := hf 5 _ rfl
  have w3 : WtOk Tryz.prog 9 x3.1 := WtOk.part Tryz.underlying28 hw (j := 3) rfl rfl
  have w4 : WtOk Tryz.prog 25 x4.1 := WtOk.part Tryz.underlying28 hw (j := 4) rfl rfl
  have w5 : WtOk Tryz.prog 26 x5.1 := WtOk.part Tryz.underlying28 hw (j := 5) rfl rfl
  simp only [cellsI, cellsI64, cellsB, cellsS, cellsLV, cellsLP, List.drop_succ_cons, List.drop_zero, List.take_succ_cons, List.take_zero] at f0 f1 f2 f3 f4 f5
  obtain ⟨k, e0, _⟩ := DataW.trod_int Tryz.underlying3 f0
  obtain ⟨b, e1, _⟩ := DataW.trod_bool Tryz.underlying4 f1
  obtain ⟨i, e2, _⟩ := DataW.trod_int Tryz.underlying2 f2
  obtain ⟨s, e3, hx3, _⟩ := DataW.trod_string Tryz.underlying9 f3
  injection e0 with e0; injection e1 with e1; injection e2 with e2; injection e3 with e3
  subst e0 e1 e2 e3
  rw [hx3] at w3
  obtain ⟨l, hl1, hl2⟩ := sl_of_trodW (R := fun cs (v : V) => RelL (σW w) cs (cellsV v) ∧ v.sb) Tryz.underlying25 cellsTV (by decide) f4 w4 (fun n' cs y hn h hw => ih n' (by omega) cs y h hw)
  obtain ⟨mm, hm1, hm2⟩ := sl_of_trodW (R := fun cs (p : ByteArray × V) => RelL (σW w) cs (.str p.1 :: cellsV p.2) ∧ p.1.size ≤ 140737488355328 ∧ p.2.sb) Tryz.underlying26 cellsTP (by decide) f5 w5 (fun n' cs y hn h hw => by
   obtain ⟨xs, m', hm', hy, hl, hxl, hf⟩ := DataW.trod_struct Tryz.underlying116 h
   rw [cellsTP] at hl
   obtain ⟨d0, d1, d2, d3, d4, d5, d6, rfl⟩ := list7 hl
   obtain ⟨z0, z1, rfl⟩ : ∃ a b, xs = [a, b] := by
    have hxl : xs.length = 2 := hxl
    rcases xs with _ | ⟨a, _ | ⟨b, _ | ⟨c, l⟩⟩⟩ <;> simp at hxl
    exact ⟨a, b, rfl⟩
   rw [hy] at hw
   have g0 : DataW.trod enc Tryz.prog w base spare held m' 9 (List.take (Tryz.prog.cellsOf 9) (List.drop 0 [d0, d1, d2, d3, d4, d5, d6])) = some z0 := hf 0 _ rfl
   have g1 : DataW.trod enc Tryz.prog w base spare held m' 28 (List.take (Tryz.prog.cellsOf 28) (List.drop 1 [d0, d1, d2, d3, d4, d5, d6])) = some z1 := hf 1 _ rfl
   have v0 : WtOk Tryz.prog 9 z0.1 := WtOk.part Tryz.underlying116 hw (j := 0) rfl rfl
   have v1 : WtOk Tryz.prog 28 z1.1 := WtOk.part Tryz.underlying116 hw (j := 1) rfl rfl
   simp only [cellsS, cellsTV, List.drop_succ_cons, List.drop_zero, List.take_succ_cons, List.take_zero] at g0 g1
   obtain ⟨y, e0, hz0, _⟩ := DataW.trod_string Tryz.underlying9 g0
   injection e0 with e0
   subst e0
   rw [hz0] at v0
   obtain ⟨v, hv1, hv2⟩ := ih m' (by omega) _ z1 g1 v1
   exact ⟨(y, v), .cons (.str y) hv1, str_wt v0, hv2⟩)
  rw [bytesTV] at hl2
  rw [bytesTP] at hm2
  have h47 := reach47
  refine ⟨.mk k b i s l mm, ?_, ?_⟩
  ·rw [cellsV]
   refine .cons (.int _ _) (.cons (.bool _) (.cons (.int _ _) (.cons (.str _) (.cons ?_ (.cons ?_ .nil)))))
   ·rw [rowsV_map]; exact rel_of_sl hl1 cellsV fun cs x h => h.1
   ·rw [rowsM_map]; exact rel_of_sl hm1 (fun p => .str p.1 :: cellsV p.2) fun cs x h => h.1
  ·rw [V.sb]
   refine ⟨str_wt w3, ⟨by omega, by omega⟩, (sbL_iff l).2 fun x hx => ?_, (sbM_iff mm).2 fun p hp => ?_⟩
   ·obtain ⟨cs, h⟩ := sl_all hl1 hx; exact h.2
   ·obtain ⟨cs, h⟩ := sl_all hm1 hp; exact h.2
theorem cellsID : Tryz.prog.cellsOf 24 = 3 := by kernel_rfl
theorem list9 {α : Type} {l : List α} (h : l.length = 9) : ∃ a b c d e f g i j, l = [a, b, c, d, e, f, g, i, j] := by
 rcases l with _ | ⟨a, _ | ⟨b, _ | ⟨c, l⟩⟩⟩ <;> simp at h
 obtain ⟨d, e, f, g, i, j, rfl⟩ := list6 h
 exact ⟨_, _, _, _, _, _, _, _, _, rfl⟩
theorem id_of_trod {H : Type} {enc : TypeId × Value → H} {w : World} {base : Nat} {spare : Nat → Bool} {held : Bool} {n : Nat} {cs : List Value} {y : DataW H × List MemPlace} (h : DataW.trod enc Tryz.prog w base spare held n 24 cs = some y) (hw : WtOk Tryz.prog 24 y.1) :
  ∃ k s nm : ByteArray, cs = [.string k, .string s, .string nm] ∧ k.size ≤ 140737488355328 ∧ s.size ≤ 140737488355328 ∧ nm.size ≤ 140737488355328 := by
 obtain ⟨xs, m, hm, hy, hl, hxl, hf⟩ := DataW.trod_struct Tryz.underlying24 h
 rw [cellsID] at hl
 have hxl : xs.length = 3 := hxl
 obtain ⟨c0, c1, c2, rfl⟩ : ∃ a b c, cs = [a, b, c] := by
  rcases cs with _ | ⟨a, _ | ⟨b, _ | ⟨c, _ | ⟨d, l⟩⟩⟩⟩ <;> simp at hl
  exact ⟨a, b, c, rfl⟩
 obtain ⟨x0, x1, x2, rfl⟩ : ∃ a b c, xs = [a, b, c] := by
  rcases xs with _ | ⟨a, _ | ⟨b, _ | ⟨c, _ | ⟨d, l⟩⟩⟩⟩ <;> simp at hxl
  exact ⟨a, b, c, rfl⟩
 rw [hy] at hw
 have f0 : DataW.trod enc Tryz.prog w base spare held m 9 (List.take (Tryz.prog.cellsOf 9) (List.drop 0 [c0, c1, c2])) = some x0 := hf 0 _ rfl
 have f1 : DataW.trod enc Tryz.prog w base spare held m 9 (List.take (Tryz.prog.cellsOf 9) (List.drop 1 [c0, c1, c2])) = some x1 := hf 1 _ rfl
 have f2 : DataW.trod enc Tryz.prog w base spare held m 9 (List.take (Tryz.prog.cellsOf 9) (List.drop 2 [c0, c1, c2])) = some x2 := hf 2 _ rfl
 have w0 : WtOk Tryz.prog 9 x0.1 := WtOk.part Tryz.underlying24 hw (j := 0) rfl rfl
 have w1 : WtOk Tryz.prog 9 x1.1 := WtOk.part Tryz.underlying24 hw (j := 1) rfl rfl
 have w2 : WtOk Tryz.prog 9 x2.1 := WtOk.part Tryz.underlying24 hw (j := 2) rfl rfl
 simp only [cellsS, List.drop_succ_cons, List.drop_zero, List.take_succ_cons, List.take_zero] at f0 f1 f2
 obtain ⟨s0, e0, y0, _⟩ := DataW.trod_string Tryz.underlying9 f0
 obtain ⟨s1, e1, y1, _⟩ := DataW.trod_string Tryz.underlying9 f1
 obtain ⟨s2, e2, y2, _⟩ := DataW.trod_string Tryz.underlying9 f2
 injection e0 with e0; injection e1 with e1; injection e2 with e2
 subst e0 e1 e2
 rw [y0] at w0; rw [y1] at w1; rw [y2] at w2
 exact ⟨s0, s1, s2, rfl, str_wt w0, str_wt w1, str_wt w2⟩
end Go.Proofs.YtgidajjjpeboeaaGreatDoor
