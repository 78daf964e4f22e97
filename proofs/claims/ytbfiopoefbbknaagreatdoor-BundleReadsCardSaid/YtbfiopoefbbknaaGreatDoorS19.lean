/-
  The texts that the claim wants, one behind the other: part 19.
-/
import Derived.Test.YtbfiopoefbbknaaGreatDoorS18
import Derived.Deep.RegionWith
set_option linter.unusedSimpArgs false
set_option linter.unusedVariables false
namespace Go.Proofs.YtbfiopoefbbknaaGreatDoor
open Go.RowKit
theorem val_open {σ : Sg} {u : Value} {x : V} (h : RelP σ u ((vA (x)))) : ∃ (A C : Option Addr) (c d : Nat), u = .agg #[.int .i64 (x).kind, .bool (x).b, .int .i64 (x).n, .string (x).s, .slice A (x).l.length c, .slice C (x).m.length d] ∧ Rel1 σ (.slice A x.l.length c) (.lst .any 6 (rowsV x.l)) ∧ Rel1 σ (.slice C x.m.length d) (.lst .any 7 (rowsM x.m)) := by
 obtain ⟨vs, rfl, hl⟩ := h
 have h6 : vs.length = 6 := hl.1
 obtain ⟨v0, v1, v2, v3, v4, v5, rfl⟩ : ∃ a b c d e f, vs = [a, b, c, d, e, f] := by
  rcases vs with _ | ⟨a, _ | ⟨b, _ | ⟨c, _ | ⟨d, _ | ⟨e, _ | ⟨f, _ | ⟨g, l⟩⟩⟩⟩⟩⟩⟩ <;> simp at h6
  exact ⟨a, b, c, d, e, f, rfl⟩
 have r0 := hl.2 0 v0 _ rfl rfl
 have r1 := hl.2 1 v1 _ rfl rfl
 have r2 := hl.2 2 v2 _ rfl rfl
 have r3 := hl.2 3 v3 _ rfl rfl
 have r4 := hl.2 4 v4 _ rfl rfl
 have r5 := hl.2 5 v5 _ rfl rfl
 cases r0; cases r1; cases r2; cases r3
 obtain ⟨A, c, _, _, _, rfl, _⟩ := lst_cells r4
 obtain ⟨C, d, _, _, _, rfl, _⟩ := lst_cells r5
 rw [rowsV_len] at r4
 rw [rowsM_len] at r5
 exact ⟨A, C, c, d, by simp [rowsV_len, rowsM_len], r4, r5⟩
theorem val_close {σ : Sg} {x : V} {A C : Option Addr} {c d : Nat} (h4 : Rel1 σ (.slice A x.l.length c) (.lst .any 6 (rowsV x.l))) (h5 : Rel1 σ (.slice C x.m.length d) (.lst .any 7 (rowsM x.m))) : RelP σ (.agg #[.int .i64 (x).kind, .bool (x).b, .int .i64 (x).n, .string (x).s, .slice A (x).l.length c, .slice C (x).m.length d]) ((vA (x))) :=
 ⟨_, rfl, .cons (.int _ _) (.cons (.bool _) (.cons (.int _ _) (.cons (.str _) (.cons h4 (.cons h5 .nil)))))⟩
theorem elem_cells {σ : Sg} {w : World} (hh : Holds σ w) {A : Option Addr} {n c esz : Nat} {l : List (List AV)} (h : Rel1 σ (.slice A n c) (.lst .any esz l)) {k : Nat} {cs : List AV} (hg : l[k]? = some cs) :
  ∃ (b o : Nat) (f : Nat → Value), A = some ⟨b, o, none⟩ ∧ ∀ j a, cs[j]? = some a → w.cell? ⟨b, o + k * esz + j, none⟩ = some (f j) ∧ Rel1 σ (f j) a := by
 cases h with
 | lst t esz l A n cap b o f hn hlen hA hsz hσ hr ht =>
  have hk := (List.getElem?_eq_some_iff.1 hg).1
  refine ⟨b, o, f k, hA (by omega), fun j a ha => ⟨hh _ _ _ (hσ k j (by omega) ?_), hr k j cs a hg ha⟩⟩
  rw [← hsz k cs hg]
  exact (List.getElem?_eq_some_iff.1 ha).1
theorem elem_val {σ : Sg} {w : World} (hh : Holds σ w) {A : Option Addr} {n c : Nat} {l : List V} (h : Rel1 σ (.slice A n c) (.lst .any 6 (rowsV l))) {k : Nat} {x : V} (hg : l[k]? = some x) :
  ∃ (b o : Nat) (A1 A2 : Option Addr) (n1 n2 : Nat), A = some ⟨b, o, none⟩ ∧ RelP σ (.agg #[.int .i64 (x).kind, .bool (x).b, .int .i64 (x).n, .string (x).s, .slice A1 (x).l.length n1, .slice A2 (x).m.length n2]) ((vA (x))) ∧
   w.cell? ⟨b, o + k * 6, none⟩ = some (.int .i64 x.kind) ∧ w.cell? ⟨b, o + k * 6 + 1, none⟩ = some (.bool x.b) ∧ w.cell? ⟨b, o + k * 6 + 2, none⟩ = some (.int .i64 x.n) ∧
   w.cell? ⟨b, o + k * 6 + 3, none⟩ = some (.string x.s) ∧ w.cell? ⟨b, o + k * 6 + 4, none⟩ = some (.slice A1 x.l.length n1) ∧ w.cell? ⟨b, o + k * 6 + 5, none⟩ = some (.slice A2 x.m.length n2) := by
 obtain ⟨b, o, f, rfl, hf⟩ := elem_cells hh h (rowsV_at hg)
 obtain ⟨c0, r0⟩ := hf 0 _ rfl
 obtain ⟨c1, r1⟩ := hf 1 _ rfl
 obtain ⟨c2, r2⟩ := hf 2 _ rfl
 obtain ⟨c3, r3⟩ := hf 3 _ rfl
 obtain ⟨c4, r4⟩ := hf 4 _ rfl
 obtain ⟨c5, r5⟩ := hf 5 _ rfl
 obtain ⟨A1, A2, n1, n2, e, _⟩ := val_open (x := x) (u := .agg #[f 0, f 1, f 2, f 3, f 4, f 5]) ⟨[f 0, f 1, f 2, f 3, f 4, f 5], rfl, .cons r0 (.cons r1 (.cons r2 (.cons r3 (.cons r4 (.cons r5 .nil)))))⟩
 injection e with e
 have e := congrArg Array.toList e
 simp only [List.cons.injEq] at e
 obtain ⟨e0, e1, e2, e3, e4, e5, _⟩ := e
 rw [e0] at c0 r0; rw [e1] at c1 r1; rw [e2] at c2 r2; rw [e3] at c3 r3; rw [e4] at c4 r4; rw [e5] at c5 r5
 exact ⟨b, o, A1, A2, n1, n2, rfl, val_close r4 r5, c0, c1, c2, c3, c4, c5⟩
theorem elem_pair {σ : Sg} {w : World} (hh : Holds σ w) {A : Option Addr} {n c : Nat} {l : List (ByteArray × V)} (h : Rel1 σ (.slice A n c) (.lst .any 7 (rowsM l))) {k : Nat} {y : ByteArray} {x : V} (hg : l[k]? = some (y, x)) :
  ∃ (b o : Nat) (A1 A2 : Option Addr) (n1 n2 : Nat), A = some ⟨b, o, none⟩ ∧ RelP σ (.agg #[.int .i64 (x).kind, .bool (x).b, .int .i64 (x).n, .string (x).s, .slice A1 (x).l.length n1, .slice A2 (x).m.length n2]) ((vA (x))) ∧ w.cell? ⟨b, o + k * 7, none⟩ = some (.string y) ∧
   w.cell? ⟨b, o + k * 7 + 1, none⟩ = some (.int .i64 x.kind) ∧ w.cell? ⟨b, o + k * 7 + 2, none⟩ = some (.bool x.b) ∧ w.cell? ⟨b, o + k * 7 + 3, none⟩ = some (.int .i64 x.n) ∧
   w.cell? ⟨b, o + k * 7 + 4, none⟩ = some (.string x.s) ∧ w.cell? ⟨b, o + k * 7 + 5, none⟩ = some (.slice A1 x.l.length n1) ∧ w.cell? ⟨b, o + k * 7 + 6, none⟩ = some (.slice A2 x.m.length n2) := by
 obtain ⟨b, o, f, rfl, hf⟩ := elem_cells hh h (rowsM_at hg)
 obtain ⟨cy, ry⟩ := hf 0 _ rfl
 obtain ⟨c0, r0⟩ := hf 1 _ rfl
 obtain ⟨c1, r1⟩ := hf 2 _ rfl
 obtain ⟨c2, r2⟩ := hf 3 _ rfl
 obtain ⟨c3, r3⟩ := hf 4 _ rfl
 obtain ⟨c4, r4⟩ := hf 5 _ rfl
 obtain ⟨c5, r5⟩ := hf 6 _ rfl
 obtain ⟨A1, A2, n1, n2, e, _⟩ := val_open (x := x) (u := .agg #[f 1, f 2, f 3, f 4, f 5, f 6]) ⟨[f 1, f 2, f 3, f 4, f 5, f 6], rfl, .cons r0 (.cons r1 (.cons r2 (.cons r3 (.cons r4 (.cons r5 .nil)))))⟩
 injection e with e
 have e := congrArg Array.toList e
 simp only [List.cons.injEq] at e
 obtain ⟨e0, e1, e2, e3, e4, e5, _⟩ := e
 rw [e0] at c0 r0; rw [e1] at c1 r1; rw [e2] at c2 r2; rw [e3] at c3 r3; rw [e4] at c4 r4; rw [e5] at c5 r5
 cases hy : f 0 <;> rw [hy] at ry <;> cases ry
 rw [hy] at cy
 exact ⟨b, o, A1, A2, n1, n2, rfl, val_close r4 r5, cy, c0, c1, c2, c3, c4, c5⟩
theorem ac_str {f : FuncId} {args : List AV} {s : ByteArray} (h : AC Tryz.prog f args (.str s)) {σ : Sg} {w : World} {vs : List Value} (hh : Holds σ w) (hr : RelPs σ vs args) (hg : GW w) : Calls Tryz.prog f vs.toArray w fun e w' => e = .returned (.string s) ∧ Below w.heap.size w w' := by
 refine (h.run σ w vs hh hr hg).mono ?_
 rintro e w' ⟨σ', v, rfl, _, _, hb, hr⟩
 have hr : Rel1 σ' v (.str s) := hr
 cases hr
 exact ⟨rfl, hb⟩
theorem repL : ∀ n, Lib.repeatL [32] n = List.replicate n 32
 | 0 => rfl
 | n + 1 => by
  show [32] ++ Lib.repeatL [32] n = _
  rw [repL n]
  rfl
theorem repeat_any (k : Nat) (hk : k ≤ 1000000000000) (w : World) : Calls Tryz.prog 118 #[.string ⟨#[32]⟩, .int .i64 k] w fun e w' => e = .returned (.string (padB k)) ∧ Below w.heap.size w w' := by
 rcases k with _ | _ | k
 ·refine (Tryz.strings_Repeat_zero ⟨#[32]⟩ w).mono ?_
  rintro e w' ⟨rfl, rfl⟩
  exact ⟨rfl, Below.refl _ _⟩
 ·refine (Tryz.strings_Repeat_one ⟨#[32]⟩ w).mono ?_
  rintro e w' ⟨rfl, rfl⟩
  exact ⟨rfl, Below.refl _ _⟩
 ·refine (Tryz.strings_Repeat_main ⟨#[32]⟩ (k + 1 + 1) w (by omega) (by omega) (by show 1 * (k + 1 + 1) ≤ _; omega) (by decide)).mono ?_
  rintro e w' ⟨rfl, hb⟩
  refine ⟨?_, hb⟩
  rw [show (ByteArray.mk #[32]).data.toList = [32] from rfl, repL]
  rfl
theorem kept_block {e : TypeId} {b : Nat} {w w' : World} (h : Lib.OthersKept e (some b) w w') {g : Nat} {cs : Array Value} {T : TypeId} {fz : Nat × Nat} (hg : w.heap[g]? = some (.cells cs T fz)) (hT : T ≠ e) (hb : g ≠ b) : w'.heap[g]? = some (.cells cs T fz) :=
 h g _ hg (fun x => hb (Option.some.inj x)) (fun c f x => hT (by injection x))
theorem kept_of_below {e : TypeId} {b : Option Nat} {w w' : World} (h : Below w.heap.size w w') : Lib.OthersKept e b w w' := fun k o hk _ _ => (h.block k (Array.getElem?_eq_some_iff.1 hk).1).trans hk
abbrev IsB (B b : Nat) (bs : List Value) (w : World) : Prop := Lib.IsBuilderF 120 5 B b bs w
theorem strCells_app (a b : ByteArray) : Lib.strCells (a ++ b) = Lib.strCells a ++ Lib.strCells b := cells_app a b
def EmitPost (B b : Nat) (bs : List Value) (s : ByteArray) (w : World) (e : Ending) (w' : World) : Prop :=
 e = .returned (.tuple #[]) ∧ IsB B b (bs ++ Lib.strCells s) w' ∧ Below B w w' ∧ Lib.OthersKept 5 (some b) w w'
def EmitOk (pr : V → ByteArray) (Gd : V → Prop) (n : Nat) : Prop :=
 ∀ (v : V) (k : Nat) (σ : Sg) (w : World) (u : Value) (B b : Nat) (bs : List Value), v.size ≤ n → Gd v → k + 2 * v.size ≤ 1000000 → (∀ w', Below B w w' → Holds σ w') → (∀ w', Below B w w' → GW w') → RelP σ u ((vA (v))) → IsB B b bs w → B ≤ w.heap.size → bs.length + (v.lay wordB pr k).size ≤ 1000000000000 →
  Calls Tryz.prog 79 #[.pointer (some ⟨b, 0, none⟩), u, .int .i64 k] w (EmitPost B b bs (v.lay wordB pr k) w)
theorem ownsF_below {base size n : Nat} {e : TypeId} {v : Value} {xs : List Value} {w w' : World} {D : Nat} (h : w.ownsRowF base e size v n xs) (hb : Below D w w') (hD : w.heap.size ≤ D) : w'.ownsRowF base e size v n xs := by
 obtain ⟨h2, h3⟩ := h
 refine ⟨h2, ?_⟩
 rcases h3 with h3 | ⟨g, cap, cur, fz, hv, hg, hh, r⟩
 ·exact .inl h3
 ·exact .inr ⟨g, cap, cur, fz, hv, hg, by rw [hb.block g (Nat.lt_of_lt_of_le (Array.getElem?_eq_some_iff.1 hh).1 hD)]; exact hh, r⟩
theorem isB_below {D B b : Nat} {bs : List Value} {w w' : World} (h : IsB B b bs w) (hb : Below D w w') (hD : w.heap.size ≤ D) : IsB B b bs w' := by
 have key : ∀ p, Lib.BuilderAtF 120 5 B b p bs w → Lib.BuilderAtF 120 5 B b p bs w' := fun p h => by
  obtain ⟨h0, v, h1, h2, h4⟩ := h
  exact ⟨h0, v, by rw [hb.block b (Nat.lt_of_lt_of_le (Array.getElem?_eq_some_iff.1 h1).1 hD)]; exact h1, ownsF_below h2 hb hD, h4⟩
 exact h.imp (key _) (key _)
set_option maxHeartbeats 1000000 in
set_option maxRecDepth 100000 in
theorem tail_of {pr : V → ByteArray} {Gd : V → Prop} {n : Nat} (hE : EmitOk pr Gd n) (hP : ∀ v, Gd v → v.leaf = true → AC Tryz.prog 78 [(vA (v))] (.str (pr v)))
  (x : V) (k : Nat) (σ : Sg) (w : World) (u : Value) (B b cb ci : Nat) (bs : List Value) (hx : x.size ≤ n) (hG : Gd x) (hk : k + 2 + 2 * x.size ≤ 1000000) (hh : ∀ w', Below B w w' → Holds σ w') (hg : ∀ w', Below B w w' → GW w') (hu : RelP σ u ((vA (x)))) (hI : IsB B b bs w) (hBw : B ≤ w.heap.size)
  (hb : w.heap[cb]? = some (.cells #[.pointer (some ⟨b, 0, none⟩)] 117 (0, 0))) (hi : w.heap[ci]? = some (.cells #[.int .i64 k] 3 (0, 0))) (nb : cb ≠ b) (ni : ci ≠ b)
  (hlen : bs.length + (x.tail wordB pr k).size ≤ 1000000000000) :
  Calls Tryz.prog 119 #[u, .pointer (some ⟨cb, 0, none⟩), .pointer (some ⟨ci, 0, none⟩)] w (EmitPost B b bs (x.tail wordB pr k) w) := by
 obtain ⟨A, C, c, d, rfl, hA, hC⟩ := val_open hu
 have HU := Lib.hid hu
 have HP := Lib.hid hP
 have HE := Lib.hid hE
 have HH := Lib.hid hh
 have HG := Lib.hid hg
 clear hu hP hE hA hC hh hg
 have ltb := (Array.getElem?_eq_some_iff.1 hb).1
 have lti := (Array.getElem?_eq_some_iff.1 hi).1
 have hB0 : Below w.heap.size w (w.alloc (Obj.cells #[.int .i64 (x).kind, .bool (x).b, .int .i64 (x).n, .string (x).s, .slice A (x).l.length c, .slice C (x).m.length d] 39)) := (Below.refl _ _).alloc (Nat.le_refl _) _
 have hb0 : (w.alloc (Obj.cells #[.int .i64 (x).kind, .bool (x).b, .int .i64 (x).n, .string (x).s, .slice A (x).l.length c, .slice C (x).m.length d] 39)).heap[cb]? = some (.cells #[.pointer (some ⟨b, 0, none⟩)] 117 (0, 0)) := (hB0.block cb ltb).trans hb
 have hi0 : (w.alloc (Obj.cells #[.int .i64 (x).kind, .bool (x).b, .int .i64 (x).n, .string (x).s, .slice A (x).l.length c, .slice C (x).m.length d] 39)).heap[ci]? = some (.cells #[.int .i64 k] 3 (0, 0)) := (hB0.block ci lti).trans hi
 have hx0 : (w.alloc (Obj.cells #[.int .i64 (x).kind, .bool (x).b, .int .i64 (x).n, .string (x).s, .slice A (x).l.length c, .slice C (x).m.length d] 39)).heap[w.heap.size]? = some (.cells #[.int .i64 (x).kind, .bool (x).b, .int .i64 (x).n, .string (x).s, .slice A (x).l.length c, .slice C (x).m.length d] 39 (0, 0)) := heap_alloc_new w _
 have hI0 := isB_below hI hB0 (Nat.le_refl _)
 have hBw0 : B ≤ (w.alloc (Obj.cells #[.int .i64 (x).kind, .bool (x).b, .int .i64 (x).n, .string (x).s, .slice A (x).l.length c, .slice C (x).m.length d] 39)).heap.size := Nat.le_trans hBw hB0.size
 have hne : w.heap.size ≠ b := by
  rcases hI with h | h
  ·have := h.lt; omega
  ·have := h.lt; omega
 have hBB : Below B w (w.alloc (Obj.cells #[.int .i64 (x).kind, .bool (x).b, .int .i64 (x).n, .string (x).s, .slice A (x).l.length c, .slice C (x).m.length d] 39)) := hB0.mono hBw
 have hKK : Lib.OthersKept 5 (some b) w (w.alloc (Obj.cells #[.int .i64 (x).kind, .bool (x).b, .int .i64 (x).n, .string (x).s, .slice A (x).l.length c, .slice C (x).m.length d] 39)) := kept_of_below hB0
 have hlc := (show (x.l.length : Int) + (x.m.length : Int) ≤ 1000000 by have := x.size_eq; have := len_le_sizeL x.l; have := len_le_sizeM x.m; omega)
 cases hlf : x.leaf with
 | true =>
  have hq : (wrap64 ((x.l.length : Int) + (x.m.length : Int)) == 0) = true := by
   have := leaf_iff.1 hlf
   rw [show ((x.l.length : Int) + (x.m.length : Int)) = 0 by omega]; simp [wrap64]
  have ht : x.tail wordB pr k = ⟨#[32]⟩ ++ pr x ++ ⟨#[10]⟩ := by rw [V.tail, if_pos hlf]
  rw [ht] at hlen ⊢
  have hz : (⟨#[32]⟩ ++ pr x ++ ⟨#[10]⟩ : ByteArray).size = 1 + (pr x).size + 1 := by rw [ByteArray.size_append, ByteArray.size_append]; rfl
  have c0 : (w.alloc (Obj.cells #[.int .i64 (x).kind, .bool (x).b, .int .i64 (x).n, .string (x).s, .slice A (x).l.length c, .slice C (x).m.length d] 39)).drew.cell? ⟨cb, 0, none⟩ = some (.pointer (some ⟨b, 0, none⟩)) := (Lib.cell_of_heap hb0 0).trans rfl
  have hI1 : IsB B b bs (w.alloc (Obj.cells #[.int .i64 (x).kind, .bool (x).b, .int .i64 (x).n, .string (x).s, .slice A (x).l.length c, .slice C (x).m.length d] 39)).drew := isB_below hI0 (Below.refl _ _).drew (Nat.le_refl _)
  have hPr : ∀ w', Below B w w' → Calls Tryz.prog 78 #[.agg #[.int .i64 (x).kind, .bool (x).b, .int .i64 (x).n, .string (x).s, .slice A (x).l.length c, .slice C (x).m.length d]] w' fun e w2 => e = .returned (.string (pr x)) ∧ Below w'.heap.size w' w2 := fun w' hbb => ac_str (HP.out x hG hlf) (vs := [.agg #[.int .i64 (x).kind, .bool (x).b, .int .i64 (x).n, .string (x).s, .slice A (x).l.length c, .slice C (x).m.length d]]) (HH.out w' hbb) ⟨rfl, fun j v a hv ha => by
   rcases j with _ | j <;> simp at hv ha
   subst hv ha
   exact HU.out⟩ (HG.out w' hbb)
  have HPr := Lib.hid hPr
  clear hPr hb hi hI hI0 hx0 hi0 hb0 hlc
  go_enter Tryz.func119, Tryz.ntmps119
  go_wp2_with fail
  go_region_with (first | (go_at_call 78; refine (HPr.out _ ?_).mono ?_; exact hBB.drew; rintro e w2 ⟨rfl, hb2⟩; have c2 := (hb2.cell (p := ⟨cb, 0, none⟩) (Nat.lt_of_lt_of_le ltb hB0.size)).trans c0) | (go_at_call 120; have hq2 := Tryz.writeString_k B b bs (⟨#[32]⟩ ++ pr x ++ ⟨#[10]⟩) w2 (isB_below hI1 hb2 (Nat.le_refl _)) (by omega) (Nat.le_trans hBw0 hb2.size); refine hq2.mono ?_; clear hq2; rintro e w3 ⟨rfl, h3, b3, k3⟩) | fail)
  all_goals go_wp2
  all_goals refine bodyPost_ret (results_none rfl _ _ _) rfl ?_
  all_goals exact ⟨rfl, .inr h3, (hBB.drew.trans (hb2.mono hBw0)).trans b3, (hKK.drew.trans (kept_of_below hb2)).trans k3⟩
 | false =>
  have hq : (wrap64 ((x.l.length : Int) + (x.m.length : Int)) == 0) = false := by
   have : ¬ x.l.length + x.m.length = 0 := fun h => by rw [leaf_iff.2 h] at hlf; cases hlf
   rw [beq_eq_false_iff_ne, wrap64]; omega
  have ht : x.tail wordB pr k = ⟨#[10]⟩ ++ x.lay wordB pr (k + 2) := by rw [V.tail, if_neg (by rw [hlf]; simp)]
  rw [ht] at hlen ⊢
  have hz : (⟨#[10]⟩ ++ x.lay wordB pr (k + 2) : ByteArray).size = 1 + (x.lay wordB pr (k + 2)).size := by rw [ByteArray.size_append]; rfl
  have c0 : (w.alloc (Obj.cells #[.int .i64 (x).kind, .bool (x).b, .int .i64 (x).n, .string (x).s, .slice A (x).l.length c, .slice C (x).m.length d] 39)).cell? ⟨cb, 0, none⟩ = some (.pointer (some ⟨b, 0, none⟩)) := (Lib.cell_of_heap hb0 0).trans rfl
  clear hlc
  go_enter Tryz.func119, Tryz.ntmps119
  go_wp2_with fail
  have hq2 := Tryz.writeString_k B b bs ⟨#[10]⟩ _ hI0 (by have : (ByteArray.mk #[10]).size = 1 := rfl; omega) hBw0
  refine hq2.mono ?_
  rintro e w2 ⟨rfl, h2, b2, k2⟩
  have xb := kept_block k2 hb0 (by decide) nb
  have xi := kept_block k2 hi0 (by decide) ni
  have xx := kept_block k2 hx0 (by decide) hne
  have d0 : w2.cell? ⟨cb, 0, none⟩ = some (.pointer (some ⟨b, 0, none⟩)) := (Lib.cell_of_heap xb 0).trans rfl
  have d1 : w2.cell? ⟨ci, 0, none⟩ = some (.int .i64 k) := (Lib.cell_of_heap xi 0).trans rfl
  have e0 := Lib.cell_of_heap xx 0
  have e1 := Lib.cell_of_heap xx 1
  have e2 := Lib.cell_of_heap xx 2
  have e3 := Lib.cell_of_heap xx 3
  have e4 := Lib.cell_of_heap xx 4
  have e5 := Lib.cell_of_heap xx 5
  simp only [List.getElem?_toArray, List.getElem?_cons_zero, List.getElem?_cons_succ] at e0 e1 e2 e3 e4 e5
  clear xb xi xx hb hi hI hI0 hx0 hi0 hb0 hq2
  go_wp2_with fail
  have hE2 := HE.out x (k + 2) σ w2 (.agg #[.int .i64 (x).kind, .bool (x).b, .int .i64 (x).n, .string (x).s, .slice A (x).l.length c, .slice C (x).m.length d]) B b (bs ++ Lib.strCells ⟨#[10]⟩) hx hG (by omega) (fun w' hb' => HH.out w' ((hBB.trans b2).trans hb')) (fun w' hb' => HG.out w' ((hBB.trans b2).trans hb')) HU.out (.inr h2) (hBB.trans b2 |>.size |> Nat.le_trans hBw) (by rw [List.length_append, Lib.strCells_length]; show _ + 1 + _ ≤ _; omega)
  rw [show ((k + 2 : Nat) : Int) = (k : Int) + 2 by omega] at hE2
  refine hE2.mono ?_
  rintro e w3 ⟨rfl, h3, b3, k3⟩
  go_wp2
  refine bodyPost_ret (results_none rfl _ _ _) rfl ?_
  exact ⟨rfl, by rw [strCells_app, ← List.append_assoc]; exact h3, (hBB.trans b2).trans b3, (hKK.trans k2).trans k3⟩
theorem emem_sizeL {x : V} : ∀ {l : List V}, x ∈ l → x.size ≤ sizeL l
 | y :: l, h => by
  rw [sizeL]
  rcases List.mem_cons.1 h with rfl | h
  ·omega
  ·have := emem_sizeL h; omega
theorem emem_sizeM {p : ByteArray × V} : ∀ {l : List (ByteArray × V)}, p ∈ l → p.2.size ≤ sizeM l
 | (k, y) :: l, h => by
  rw [sizeM]
  rcases List.mem_cons.1 h with rfl | h
  ·dsimp only; omega
  ·have := emem_sizeM h; omega
theorem heap_old {w : World} {o : Obj} {k : Nat} (h : k < w.heap.size) : (w.alloc o).heap[k]? = w.heap[k]? := ((Below.refl w.heap.size w).alloc (Nat.le_refl _) o).block k h
theorem heap_at {w : World} {cs : Array Value} {T : TypeId} {k : Nat} (h : k = w.heap.size) : (w.alloc (.cells cs T)).heap[k]? = some (.cells cs T (0, 0)) := by subst h; exact heap_alloc_new w _
theorem IsB.lt {B b : Nat} {bs : List Value} {w : World} (h : IsB B b bs w) : b < w.heap.size := by
 rcases h with h | h
 ·exact h.lt
 ·exact h.lt
set_option maxHeartbeats 2000000 in
set_option maxRecDepth 100000 in
theorem emit_step {pr : V → ByteArray} {Gd : V → Prop} {n : Nat} (hE : EmitOk pr Gd n) (hP : ∀ v, Gd v → v.leaf = true → AC Tryz.prog 78 [(vA (v))] (.str (pr v))) (hS : ∀ v, Gd v → (∀ x ∈ v.l, Gd x) ∧ ∀ p ∈ v.m, Gd p.2 ∧ p.1.size ≤ 1000000) : EmitOk pr Gd (n + 1) := by
 intro v k σ w u B b bs hv hG hk hh hg hu hI hBw hlen
 obtain ⟨A, C, c, d, rfl, hA, hC⟩ := val_open hu
 have T := fun x (hx : x.size ≤ n) (hGx : Gd x) => tail_of hE hP x k σ (hx := hx) (hG := hGx)
 have HT := Lib.hid T
 have hve := v.size_eq
 have hll := len_le_sizeL v.l
 have hlm := len_le_sizeM v.m
 have hmL : ∀ x ∈ v.l, x.size ≤ sizeL v.l := fun x hx => emem_sizeL hx
 have hmM : ∀ p ∈ v.m, p.2.size ≤ sizeM v.m := fun p hp => emem_sizeM hp
 obtain ⟨hGl, hGm⟩ := hS v hG
 rw [V.lay_eq] at hlen ⊢
 have hls : (layL wordB pr v.l k ++ layM wordB pr v.m k).size = (layL wordB pr v.l k).size + (layM wordB pr v.m k).size := ByteArray.size_append
 have HH := Lib.hid hh
 have HG := Lib.hid hg
 have HA := Lib.hid hA
 have HC := Lib.hid hC
 clear T hE hP hh hg hu hA hC hS
 have hk2 : k ≤ 1000000000000 := by omega
 obtain ⟨W0, hW0⟩ : ∃ W0, W0 = ((w.alloc (.cells #[.pointer (some ⟨b, 0, none⟩)] 117)).alloc (.cells #[.int .i64 (v).kind, .bool (v).b, .int .i64 (v).n, .string (v).s, .slice A (v).l.length c, .slice C (v).m.length d] 39)).alloc (.cells #[.int .i64 k] 3) := ⟨_, rfl⟩
 have hs0 : W0.heap.size = w.heap.size + 1 + 1 + 1 := by rw [hW0]; simp
 have hB0 : Below w.heap.size w W0 := by rw [hW0]; exact (((Below.refl _ _).alloc (Nat.le_refl _) _).alloc (by simp) _).alloc (by simp; omega) _
 have x3 : W0.heap[w.heap.size]? = some (.cells #[.pointer (some ⟨b, 0, none⟩)] 117 (0, 0)) := by
  rw [hW0, heap_old (by simp; omega), heap_old (by simp)]; exact heap_alloc_new w _
 have x4 : W0.heap[w.heap.size + 1]? = some (.cells #[.int .i64 (v).kind, .bool (v).b, .int .i64 (v).n, .string (v).s, .slice A (v).l.length c, .slice C (v).m.length d] 39 (0, 0)) := by
  rw [hW0, heap_old (by simp)]; exact heap_at (by simp)
 have x5 : W0.heap[w.heap.size + 1 + 1]? = some (.cells #[.int .i64 k] 3 (0, 0)) := by
  rw [hW0]; exact heap_at (by simp)
 have hI0 := isB_below hI hB0 (Nat.le_refl _)
 have hlb := hI.lt
 go_enter Tryz.func79, Tryz.ntmps79
 go_wp2_with fail
 rw [← hW0]
 have c5 : W0.cell? ⟨w.heap.size + 1 + 1, 0, none⟩ = some (.int .i64 k) := (Lib.cell_of_heap x5 0).trans rfl
 refine (repeat_any k hk2 W0).mono ?_
 rintro e w1 ⟨rfl, hr⟩
 clear hW0
 have y3 := (hr.block _ (by omega)).trans x3
 have y4 := (hr.block _ (by omega)).trans x4
 have y5 := (hr.block _ (by omega)).trans x5
 have hI1 := isB_below hI0 hr (Nat.le_refl _)
 have hB1 : Below B w w1 := (hB0.trans (hr.mono hB0.size)).mono hBw
 have hK1 : Lib.OthersKept 5 (some b) w w1 := (kept_of_below hB0).trans (kept_of_below hr)
 have hs1 := hr.size
 have d4 : w1.cell? ⟨w.heap.size + 1, 4, none⟩ = some (.slice A v.l.length c) := (Lib.cell_of_heap y4 4).trans rfl
 clear x3 x4 x5 hI0 hr hB0 c5 hI
 go_wp2_with fail
 go_loopw [18] (fun i wr => ∃ j : Nat, j ≤ v.l.length ∧ i = .int .i64 j ∧ IsB B b (bs ++ Lib.strCells (layL wordB pr (v.l.take j) k)) wr ∧ Below B w1 wr ∧ Lib.OthersKept 5 (some b) w1 wr) (fun i _ => v.l.length - (intOf i).toNat)
 case atStart => exact ⟨0, by omega, rfl, by rw [List.take_zero, layL]; simpa [Lib.strCells] using hI1, Below.refl _ _, Lib.OthersKept.refl _ _ _⟩
 case round =>
  obtain ⟨j, hj, rfl, hIr, hBr, hKr⟩ := hrel
  have z3 := kept_block hKr y3 (by decide) (by omega)
  have z4 := kept_block hKr y4 (by decide) (by omega)
  have z5 := kept_block hKr y5 (by decide) (by omega)
  have hsr := hBr.size
  have hBw2 : B ≤ wr.heap.size := by omega
  by_cases hlt : j < v.l.length
  ·obtain ⟨x, hgx⟩ : ∃ x, v.l[j]? = some x := ⟨_, List.getElem?_eq_getElem hlt⟩
   obtain ⟨b0, o0, A1, A2, n1, n2, rfl, hx, c0, c1, c2, c3, c4, c5⟩ := elem_val (HH.out wr (hB1.trans hBr)) HA.out hgx
   have hxm := List.mem_of_getElem? hgx
   have hxs := hmL x hxm
   have hlt2 := layL_take (w := wordB) (pr := pr) hgx k
   have hle := layL_le (w := wordB) (pr := pr) v.l (j + 1) k
   have hsz : (layL wordB pr (v.l.take (j + 1)) k).size = (layL wordB pr (v.l.take j) k).size + ((padB k ++ ⟨#[45]⟩ : ByteArray).size + (x.tail wordB pr k).size) := by rw [hlt2, ByteArray.size_append, ByteArray.size_append]
   have e3 : wr.cell? ⟨w.heap.size, 0, none⟩ = some (.pointer (some ⟨b, 0, none⟩)) := (Lib.cell_of_heap z3 0).trans rfl
   have HX := Lib.hid hx
   have hz : w.heap.size < wr.heap.size := by omega
   have hps := padB_size k
   have hpz : (padB k ++ ⟨#[45]⟩ : ByteArray).size = k + 1 := by rw [ByteArray.size_append, hps]; rfl
   clear hx
   go_wp2_with fail
   have hBa : Below wr.heap.size wr (wr.alloc (Obj.cells #[.int .i64 (x).kind, .bool (x).b, .int .i64 (x).n, .string (x).s, .slice A1 (x).l.length n1, .slice A2 (x).m.length n2] 39)) := (Below.refl _ _).alloc (Nat.le_refl _) _
   have hxb : (wr.alloc (Obj.cells #[.int .i64 (x).kind, .bool (x).b, .int .i64 (x).n, .string (x).s, .slice A1 (x).l.length n1, .slice A2 (x).m.length n2] 39)).heap[wr.heap.size]? = some (.cells #[.int .i64 (x).kind, .bool (x).b, .int .i64 (x).n, .string (x).s, .slice A1 (x).l.length n1, .slice A2 (x).m.length n2] 39 (0, 0)) := heap_alloc_new wr _
   have hlr := hIr.lt
   have hl1 : (bs ++ Lib.strCells (layL wordB pr (v.l.take j) k)).length + (padB k ++ ⟨#[45]⟩ : ByteArray).size ≤ 140737488355328 := by rw [List.length_append, Lib.strCells_length]; omega
   have hq := Tryz.writeString_k B b (bs ++ Lib.strCells (layL wordB pr (v.l.take j) k)) (padB k ++ ⟨#[45]⟩) (wr.alloc (Obj.cells #[.int .i64 (x).kind, .bool (x).b, .int .i64 (x).n, .string (x).s, .slice A1 (x).l.length n1, .slice A2 (x).m.length n2] 39)) (isB_below hIr hBa (Nat.le_refl _)) hl1 (Nat.le_trans hBw2 hBa.size)
   refine hq.mono ?_
   clear hq
   rintro e w2 ⟨rfl, h2, b2, k2⟩
   have q := kept_block k2 hxb (by decide) (by omega)
   have q0 := Lib.cell_of_heap q 0
   have q1 := Lib.cell_of_heap q 1
   have q2 := Lib.cell_of_heap q 2
   have q3 := Lib.cell_of_heap q 3
   have q4 := Lib.cell_of_heap q 4
   have q5 := Lib.cell_of_heap q 5
   simp only [List.getElem?_toArray, List.getElem?_cons_zero, List.getElem?_cons_succ] at q0 q1 q2 q3 q4 q5
   have hBr2 : Below B wr w2 := (hBa.mono hBw2).trans b2
   have hKr2 : Lib.OthersKept 5 (some b) wr w2 := (kept_of_below hBa).trans k2
   go_wp2_with fail
   refine (HT.out x (by omega) (hGl x hxm) w2 _ B b w.heap.size (w.heap.size + 1 + 1) _ (by omega) (fun w' hb' => HH.out w' ((hB1.trans (hBr.trans hBr2)).trans hb')) (fun w' hb' => HG.out w' ((hB1.trans (hBr.trans hBr2)).trans hb')) HX.out (.inr h2) (Nat.le_trans hBw2 hBr2.size)
    (kept_block hKr2 z3 (by decide) (by omega)) (kept_block hKr2 z5 (by decide) (by omega)) (by omega) (by omega) (by rw [List.length_append, List.length_append, Lib.strCells_length, Lib.strCells_length]; omega)).mono ?_
   rintro e w3 ⟨rfl, h3, b3, k3⟩
   clear q q0 q1 q2 q3 q4 q5 h2 hxb z3 z4 z5 hIr e3 c0 c1 c2 c3 c4 c5
   go_wp2
   go_roundw
   case rel => exact ⟨j + 1, by omega, by go_num, by rw [hlt2, strCells_app, strCells_app, ← List.append_assoc, ← List.append_assoc]; exact h3, hBr.trans (hBr2.trans b3), hKr.trans (hKr2.trans k3)⟩
   case measure => simp [intOf]; omega
  ·have hj' : j = v.l.length := by omega
   subst hj'
   rw [List.take_length] at hIr
   obtain ⟨wo, rfl⟩ : ∃ wo : World, wo = wr := ⟨_, rfl⟩
   have d5 : wo.cell? ⟨w.heap.size + 1, 5, none⟩ = some (.slice C v.m.length d) := (Lib.cell_of_heap z4 5).trans rfl
   clear y3 y4 y5 d4 hI1
   go_wp2
   go_loopw [33] (fun i wr => ∃ j : Nat, j ≤ v.m.length ∧ i = .int .i64 j ∧ IsB B b (bs ++ Lib.strCells (layL wordB pr v.l k) ++ Lib.strCells (layM wordB pr (v.m.take j) k)) wr ∧ Below B wo wr ∧ Lib.OthersKept 5 (some b) wo wr) (fun i _ => v.m.length - (intOf i).toNat)
   case atStart => exact ⟨0, by omega, rfl, by rw [List.take_zero, layM]; simpa [Lib.strCells] using hIr, Below.refl _ _, Lib.OthersKept.refl _ _ _⟩
   case round =>
    obtain ⟨j, hj, rfl, hIs, hBs, hKs⟩ := hrel
    have y3 := kept_block hKs z3 (by decide) (by omega)
    have y5 := kept_block hKs z5 (by decide) (by omega)
    have hss := hBs.size
    have hBw3 : B ≤ wr.heap.size := by omega
    have hBo : Below B w wr := (hB1.trans hBr).trans hBs
    by_cases hlt : j < v.m.length
    ·obtain ⟨⟨y, x⟩, hgx⟩ : ∃ x, v.m[j]? = some x := ⟨_, List.getElem?_eq_getElem hlt⟩
     obtain ⟨b0, o0, A1, A2, n1, n2, rfl, hx, cy, c0, c1, c2, c3, c4, c5⟩ := elem_pair (HH.out wr hBo) HC.out hgx
     have hxm := List.mem_of_getElem? hgx
     have hxs := hmM _ hxm
     have hxG := hGm _ hxm
     dsimp only at hxs hxG
     have hlt2 := layM_take (w := wordB) (pr := pr) hgx k
     have hle := layM_le (w := wordB) (pr := pr) v.m (j + 1) k
     have hsz : (layM wordB pr (v.m.take (j + 1)) k).size = (layM wordB pr (v.m.take j) k).size + ((padB k ++ wordB y ++ ⟨#[58]⟩ : ByteArray).size + (x.tail wordB pr k).size) := by rw [hlt2, ByteArray.size_append, ByteArray.size_append]
     have HX := Lib.hid hx
     have hz : w.heap.size < wr.heap.size := by omega
     have hps := padB_size k
     have hwy := wordB_size y
     have hpz1 : (padB k ++ wordB y : ByteArray).size = k + (wordB y).size := by rw [ByteArray.size_append, hps]
     have hpz : (padB k ++ wordB y ++ ⟨#[58]⟩ : ByteArray).size = k + (wordB y).size + 1 := by rw [ByteArray.size_append, hpz1]; rfl
     have hys := hxG.2
     have hBa : Below wr.heap.size wr (wr.alloc (Obj.cells #[.string y, .int .i64 x.kind, .bool x.b, .int .i64 x.n, .string x.s, .slice A1 x.l.length n1, .slice A2 x.m.length n2] 43)).drew := ((Below.refl _ _).alloc (Nat.le_refl _) _).drew
     have hxb : (wr.alloc (Obj.cells #[.string y, .int .i64 x.kind, .bool x.b, .int .i64 x.n, .string x.s, .slice A1 x.l.length n1, .slice A2 x.m.length n2] 43)).drew.heap[wr.heap.size]? = some (.cells #[.string y, .int .i64 x.kind, .bool x.b, .int .i64 x.n, .string x.s, .slice A1 x.l.length n1, .slice A2 x.m.length n2] 43 (0, 0)) := heap_alloc_new wr _
     have hlr := hIs.lt
     have hl1 : (bs ++ Lib.strCells (layL wordB pr v.l k) ++ Lib.strCells (layM wordB pr (v.m.take j) k)).length + (padB k ++ wordB y ++ ⟨#[58]⟩ : ByteArray).size ≤ 140737488355328 := by rw [List.length_append, List.length_append, Lib.strCells_length, Lib.strCells_length]; omega
     have g3 := (hBa.block _ hz).trans y3
     have f0 : (wr.alloc (Obj.cells #[.string y, .int .i64 x.kind, .bool x.b, .int .i64 x.n, .string x.s, .slice A1 x.l.length n1, .slice A2 x.m.length n2] 43)).drew.cell? ⟨w.heap.size, 0, none⟩ = some (.pointer (some ⟨b, 0, none⟩)) := (Lib.cell_of_heap g3 0).trans rfl
     have hIa := isB_below hIs hBa (Nat.le_refl _)
     have hsa := hBa.size
     have hsb : wr.heap.size < (wr.alloc (Obj.cells #[.string y, .int .i64 x.kind, .bool x.b, .int .i64 x.n, .string x.s, .slice A1 x.l.length n1, .slice A2 x.m.length n2] 43)).drew.heap.size := by show wr.heap.size < (wr.alloc _).heap.size; simp
     have HG0 := Lib.hid (HG.out _ (hBo.trans (hBa.mono hBw3)))
     have hGw : ∀ w2 : World, Below (wr.alloc (Obj.cells #[.string y, .int .i64 x.kind, .bool x.b, .int .i64 x.n, .string x.s, .slice A1 x.l.length n1, .slice A2 x.m.length n2] 43)).drew.heap.size (wr.alloc (Obj.cells #[.string y, .int .i64 x.kind, .bool x.b, .int .i64 x.n, .string x.s, .slice A1 x.l.length n1, .slice A2 x.m.length n2] 43)).drew w2 → GW w2 := fun w2 h2 => HG.out w2 ((hBo.trans (hBa.mono hBw3)).trans (h2.mono (Nat.le_trans hBw3 hsa)))
     have HGw := Lib.hid hGw
     clear hx hGw
     go_wp2_with fail
     go_region_with (first | (go_at_call 40; refine (str_any y _ HG0.out).mono ?_; rintro e w2 ⟨⟨A3, C3, c3', d3, rfl⟩, hb2⟩; have f2 := (hb2.cell (p := ⟨w.heap.size, 0, none⟩) (Nat.lt_of_lt_of_le hz hsa)).trans f0; have hs2 := hb2.size) | (go_at_call 78; refine (print_any y hys A3 C3 c3' d3 _ (HGw.out _ hb2)).mono ?_; rintro e w3 ⟨rfl, hb3⟩; have f3 := (hb3.cell (p := ⟨w.heap.size, 0, none⟩) (Nat.lt_of_lt_of_le (Nat.lt_of_lt_of_le hz hsa) hs2)).trans f2) | (go_at_call 120; have hq := Tryz.writeString_k B b (bs ++ Lib.strCells (layL wordB pr v.l k) ++ Lib.strCells (layM wordB pr (v.m.take j) k)) (padB k ++ wordB y ++ ⟨#[58]⟩) w3 (isB_below (isB_below hIa hb2 (Nat.le_refl _)) hb3 (Nat.le_refl _)) hl1 (Nat.le_trans (Nat.le_trans (Nat.le_trans hBw3 hsa) hs2) hb3.size); refine hq.mono ?_; clear hq; rintro e w4 ⟨rfl, h4, b4, k4⟩) | fail)
     all_goals
      have hBq : Below B wr w4 := ((hBa.mono hBw3).trans (hb2.mono (Nat.le_trans hBw3 hsa))).trans ((hb3.mono (Nat.le_trans (Nat.le_trans hBw3 hsa) hs2)).trans b4)
      have hKq : Lib.OthersKept 5 (some b) wr w4 := (kept_of_below hBa).trans ((kept_of_below hb2).trans ((kept_of_below hb3).trans k4))
      have q := kept_block k4 ((hb3.block _ (Nat.lt_of_lt_of_le hsb hs2)).trans ((hb2.block _ hsb).trans hxb)) (by decide) (by omega)
      have q1 := Lib.cell_of_heap q 1
      have q2 := Lib.cell_of_heap q 2
      have q3 := Lib.cell_of_heap q 3
      have q4 := Lib.cell_of_heap q 4
      have q5 := Lib.cell_of_heap q 5
      have q6 := Lib.cell_of_heap q 6
      simp only [List.getElem?_toArray, List.getElem?_cons_zero, List.getElem?_cons_succ] at q1 q2 q3 q4 q5 q6
      have t3 := kept_block hKq y3 (by decide) (by omega)
      have t5 := kept_block hKq y5 (by decide) (by omega)
      clear q hxb f0 f2 f3 g3 cy c0 c1 c2 c3 c4 c5 hIa hIs y3 y5 hb2 hb3 k4 b4 HG0 HGw
      go_wp2_with fail
      refine (HT.out x (by omega) hxG.1 w4 _ B b w.heap.size (w.heap.size + 1 + 1) _ (by omega) (fun w' hb' => HH.out w' ((hBo.trans hBq).trans hb')) (fun w' hb' => HG.out w' ((hBo.trans hBq).trans hb')) HX.out (.inr h4) (Nat.le_trans hBw3 hBq.size)
       t3 t5 (by omega) (by omega) (by rw [List.length_append, List.length_append, List.length_append, Lib.strCells_length, Lib.strCells_length, Lib.strCells_length]; omega)).mono ?_
      rintro e w5 ⟨rfl, h5, b5, k5⟩
      clear q1 q2 q3 q4 q5 q6 h4 t3 t5
      go_wp2
      go_roundw
      case rel => exact ⟨j + 1, by omega, by go_num, by rw [hlt2, strCells_app, strCells_app, ← List.append_assoc, ← List.append_assoc]; exact h5, hBs.trans (hBq.trans b5), hKs.trans (hKq.trans k5)⟩
      case measure => simp [intOf]; omega
    ·have hj' : j = v.m.length := by omega
     subst hj'
     rw [List.take_length] at hIs
     clear y3 y5 z3 z4 z5 d5
     go_wp2
     refine bodyPost_ret (results_none rfl _ _ _) rfl ?_
     exact ⟨rfl, by rw [strCells_app, ← List.append_assoc]; exact hIs, hBo, hK1.trans (hKr.trans hKs)⟩
theorem emit_any {pr : V → ByteArray} {Gd : V → Prop} (hP : ∀ v, Gd v → v.leaf = true → AC Tryz.prog 78 [(vA (v))] (.str (pr v))) (hS : ∀ v, Gd v → (∀ x ∈ v.l, Gd x) ∧ ∀ p ∈ v.m, Gd p.2 ∧ p.1.size ≤ 1000000) : ∀ n, EmitOk pr Gd n
 | 0 => fun v k σ w u B b bs hv => by have := v.size_pos; omega
 | n + 1 => emit_step (emit_any hP hS n) hP hS
set_option maxHeartbeats 1000000 in
set_option maxRecDepth 100000 in
theorem emitTop_a {pr : V → ByteArray} {Gd : V → Prop} (hP : ∀ v, Gd v → v.leaf = true → AC Tryz.prog 78 [(vA (v))] (.str (pr v))) (hS : ∀ v, Gd v → (∀ x ∈ v.l, Gd x) ∧ ∀ p ∈ v.m, Gd p.2 ∧ p.1.size ≤ 1000000)
  (v : V) (hG : Gd v) (hv : v.size ≤ 400000) (hl : (v.emit wordB pr).size ≤ 1000000000000) : AC Tryz.prog 41 [(vA (v))] (.str (v.emit wordB pr)) := by
 refine ⟨by kernel_rfl, fun σ w vs hh hr hg => ?_⟩
 obtain ⟨u, rfl⟩ := List.length_eq_one_iff.1 hr.1
 have hu : RelP σ u ((vA (v))) := hr.2 0 u _ rfl rfl
 suffices h : Calls Tryz.prog 41 #[u] w fun e w' => e = .returned (.string (v.emit wordB pr)) ∧ Below w.heap.size w w' by
  refine h.mono ?_
  rintro e w' ⟨rfl, hb⟩
  exact ⟨σ, _, rfl, Ext.refl _ _, fun b q v hv => (hb.cell (p := ⟨b, q, none⟩) (World.block_lt_of_cell? w _ (hh _ _ _ hv))).trans (hh _ _ _ hv), hb, .str _⟩
 obtain ⟨A, C, c, d, rfl, hA, hC⟩ := val_open hu
 have HU := Lib.hid hu
 have HH := Lib.hid (show ∀ w', Below w.heap.size w w' → Holds σ w' from fun w' hb b q v hv => (hb.cell (p := ⟨b, q, none⟩) (World.block_lt_of_cell? w _ (hh _ _ _ hv))).trans (hh _ _ _ hv))
 have HG := Lib.hid (show ∀ w', Below w.heap.size w w' → GW w' from fun w' hb => hg.below hb)
 have hPr : v.leaf = true → ∀ w', Below w.heap.size w w' → Calls Tryz.prog 78 #[.agg #[.int .i64 (v).kind, .bool (v).b, .int .i64 (v).n, .string (v).s, .slice A (v).l.length c, .slice C (v).m.length d]] w' fun e w2 => e = .returned (.string (pr v)) ∧ Below w'.heap.size w' w2 := fun hlf w' hbb => ac_str (hP v hG hlf) (vs := [.agg #[.int .i64 (v).kind, .bool (v).b, .int .i64 (v).n, .string (v).s, .slice A (v).l.length c, .slice C (v).m.length d]]) (HH.out w' hbb) ⟨rfl, fun j v a hv ha => by
  rcases j with _ | j <;> simp at hv ha
  subst hv ha
  exact HU.out⟩ (HG.out w' hbb)
 have hE := fun w2 bs (hb : Below w.heap.size w w2) (hI : IsB w.heap.size (w.heap.size + 1) bs w2) (hlen : bs.length + (v.lay wordB pr 0).size ≤ 1000000000000) => emit_any hP hS v.size v 0 σ w2 (.agg #[.int .i64 (v).kind, .bool (v).b, .int .i64 (v).n, .string (v).s, .slice A (v).l.length c, .slice C (v).m.length d]) w.heap.size (w.heap.size + 1) bs (Nat.le_refl _) hG (by omega) (fun w' hb' => HH.out w' (hb.trans hb')) (fun w' hb' => HG.out w' (hb.trans hb')) HU.out hI hb.size hlen
 have HPr := Lib.hid hPr
 have HE := Lib.hid hE
 have hlc := (show (v.l.length : Int) + (v.m.length : Int) ≤ 1000000 by have := v.size_eq; have := len_le_sizeL v.l; have := len_le_sizeM v.m; omega)
 have hB1 : Below w.heap.size w (w.alloc (Obj.cells #[.int .i64 (v).kind, .bool (v).b, .int .i64 (v).n, .string (v).s, .slice A (v).l.length c, .slice C (v).m.length d] 39)) := (Below.refl _ _).alloc (Nat.le_refl _) _
 have hB2 : Below w.heap.size w ((w.alloc (Obj.cells #[.int .i64 (v).kind, .bool (v).b, .int .i64 (v).n, .string (v).s, .slice A (v).l.length c, .slice C (v).m.length d] 39)).alloc (Obj.cells #[.pointer none, .slice none 0 0] 120)) := hB1.alloc hB1.size _
 clear hPr hE hh hr hg hu hA hC hP hS
 cases hlf : v.leaf with
 | true =>
  have hq : (wrap64 ((v.l.length : Int) + (v.m.length : Int)) == 0) = true := by
   have := leaf_iff.1 hlf
   rw [show ((v.l.length : Int) + (v.m.length : Int)) = 0 by omega]; simp [wrap64]
  have ht : v.emit wordB pr = pr v ++ ⟨#[10]⟩ := by rw [V.emit, if_pos hlf]
  rw [ht] at hl ⊢
  have hz : (pr v ++ ⟨#[10]⟩ : ByteArray).size = (pr v).size + 1 := by rw [ByteArray.size_append]; rfl
  clear hlc
  go_enter Tryz.func41, Tryz.ntmps41
  go_wp2_with (go_at_call 78; refine (HPr.out hlf _ hB2).mono ?_; rintro e w2 ⟨rfl, hb2⟩)
  go_ret
  exact ⟨rfl, hB2.trans (hb2.mono hB2.size)⟩
 | false =>
  have hq : (wrap64 ((v.l.length : Int) + (v.m.length : Int)) == 0) = false := by
   have : ¬ v.l.length + v.m.length = 0 := fun h => by rw [leaf_iff.2 h] at hlf; cases hlf
   rw [beq_eq_false_iff_ne, wrap64]; omega
  have ht : v.emit wordB pr = v.lay wordB pr 0 := by rw [V.emit, if_neg (by rw [hlf]; simp)]
  rw [ht] at hl ⊢
  clear hlc
  go_enter Tryz.func41, Tryz.ntmps41
  go_wp2_with fail
  have hI : IsB w.heap.size (w.heap.size + 1) [] ((w.alloc (Obj.cells #[.int .i64 (v).kind, .bool (v).b, .int .i64 (v).n, .string (v).s, .slice A (v).l.length c, .slice C (v).m.length d] 39)).alloc (Obj.cells #[.pointer none, .slice none 0 0] 120)) := by
   refine .inl ⟨by omega, .slice none 0 0, heap_at (by simp), ⟨by simp, .inl ⟨rfl, rfl⟩⟩, by simp [Value.ownBlock]⟩
  refine (HE.out _ [] hB2 hI (by simpa using hl)).mono ?_
  rintro e w2 ⟨rfl, h2, b2, k2⟩
  go_wp2_with fail
  refine (Tryz.Builder_String_any_f w.heap.size (w.heap.size + 1) (v.lay wordB pr 0).data.toList w2 h2 (Nat.le_trans hB2.size b2.size)).mono ?_
  rintro e w3 ⟨rfl, b3⟩
  go_wp2
  go_ret
  exact ⟨rfl, (hB2.trans b2).trans b3.2⟩
end Go.Proofs.YtbfiopoefbbknaaGreatDoor
namespace Go.Proofs.YtbfiopoefbbknaaGreatDoor
open Go.ChangeShapes Go.WideShapes Go.ChangeAt Go.RowKit Go.Deep
def σW (w : World) : Sg := fun b o => w.cell? ⟨b, o, none⟩
theorem holds_all (w : World) : Holds (σW w) w := fun _ _ _ h => h
theorem rel_of_sl {α : Type} {R : List Value → α → Prop} {w : World} {B size : Nat} {v : Value} {l : List α} (h : Sl size R w B v l) (row : α → List AV) (hR : ∀ cs x, R cs x → RelL (σW w) cs (row x)) : Rel1 (σW w) v (.lst .any size (l.map row)) := by
 obtain ⟨A, cap, rfl, hcap, hat⟩ := h
 cases l with
 | nil => exact .lst .any size [] A 0 cap 0 0 (fun _ _ => undef) rfl (by omega) (fun h => by omega) (fun i c h => by simp at h) (fun i j h => by omega) (fun i j c a h => by simp at h) trivial
 | cons x0 l0 =>
  obtain ⟨b, o, hA, _⟩ := hat 0 x0 rfl
  subst hA
  have key : ∀ (i : Nat) x, (x0 :: l0)[i]? = some x → ∃ cs : List Value, cs.length = size ∧ R cs x ∧ ∀ (j : Nat) u, cs[j]? = some u → w.cell? ⟨b, o + i * size + j, none⟩ = some u := by
   intro i x hi
   obtain ⟨b', o', hA, _, cs, h1, h2, h3⟩ := hat i x hi
   injection hA with hA
   injection hA with e1 e2
   subst e1 e2
   exact ⟨cs, h1, h2, h3⟩
  refine .lst .any size _ _ _ cap b o (fun i j => (w.cell? ⟨b, o + i * size + j, none⟩).getD undef) (by simp) hcap (fun _ => rfl) (fun i c hc => ?_) (fun i j hi hj => ?_) (fun i j c a hc ha => ?_) trivial
  ·rw [List.getElem?_map] at hc
   cases hx : (x0 :: l0)[i]? with
   | none => rw [hx] at hc; cases hc
   | some x =>
    rw [hx] at hc
    cases hc
    obtain ⟨cs, h1, h2, _⟩ := key i x hx
    rw [← (hR cs x h2).1, h1]
  ·obtain ⟨cs, h1, h2, h3⟩ := key i _ (List.getElem?_eq_getElem hi)
   have h4 := h3 j _ (List.getElem?_eq_getElem (by omega))
   simp only [σW, h4, Option.getD_some]
  ·rw [List.getElem?_map] at hc
   cases hx : (x0 :: l0)[i]? with
   | none => rw [hx] at hc; cases hc
   | some x =>
    rw [hx] at hc
    cases hc
    obtain ⟨cs, h1, h2, h3⟩ := key i x hx
    obtain ⟨u, hu, hr⟩ := (hR cs x h2).at_ ha
    rw [h3 j u hu]
    exact hr
section
variable {H : Type} {enc : TypeId × Value → H} {P : Program}
def WtOk (P : Program) (t : TypeId) (d : DataW H) : Prop := ∀ q ∈ d.weights P t, q ≤ reachBytes
theorem WtOk.part {t : TypeId} {fs : Array Field} (ht : P.underlying t = some (.struct fs)) {xs : List (DataW H × List MemPlace)} (h : WtOk P t (.agg (xs.map (·.1)))) {j : Nat} {f : Field} (hf : fs[j]? = some f) {x : DataW H × List MemPlace} (hx : xs[j]? = some x) : WtOk P f.type x.1 := by
 intro q hq
 refine h q ?_
 unfold DataW.weights
 rw [ht]
 exact DataW.weights_mem_each (j := j) (by simp [hf]) (by simp [hx]) q hq
theorem weightsAll_mem {e : TypeId} : ∀ {ds : List (DataW H)} {d : DataW H}, d ∈ ds → ∀ q ∈ d.weights P e, q ∈ DataW.weightsAll P e ds
 | d' :: ds, d, hd, q, hq => by
  unfold DataW.weightsAll
  rcases List.mem_cons.1 hd with rfl | hd
  ·exact List.mem_append_left _ hq
  ·exact List.mem_append_right _ (weightsAll_mem hd q hq)
theorem sl_of_trodW {α : Type} {R : List Value → α → Prop} {w : World} {base : Nat} {spare : Nat → Bool} {held : Bool} {t e : TypeId} {size : Nat} (ht : P.underlying t = some (.slice e)) (hC : P.cellsOf e = size) (hsz : 0 < size)
  {v : Value} {fuel : Nat} {x : DataW H × List MemPlace} (h : DataW.trod enc P w base spare held fuel t [v] = some x) (hw : WtOk P t x.1) (hR : ∀ n cs y, n < fuel → DataW.trod enc P w base spare held n e cs = some y → WtOk P e y.1 → ∃ a, R cs a) :
  ∃ l : List α, Sl size R w w.heap.size v l ∧ l.length * P.bytesOf e ≤ reachBytes := by
 rcases DataW.trod_slice ht h with ⟨hcs, hx⟩ | ⟨a, len, cap, elems, rest, n, hn, hcs, hx, hb, hl, hm, hlen, hel, hsp, hns⟩
 ·injection hcs with hcs
  subst hcs
  exact ⟨[], Sl.nil _ _, by simp⟩
 ·injection hcs with hcs
  subst hcs hC
  have hwt : (elems.length + rest.length) * P.bytesOf e ≤ reachBytes ∧ ∀ y ∈ elems, WtOk P e y.1 := by
   rw [hx] at hw
   unfold WtOk DataW.weights at hw
   simp only [ht] at hw
   refine ⟨by simpa using hw _ (List.mem_cons_self ..), fun y hy q hq => hw q (List.mem_cons_of_mem _ (List.mem_append_left _ (weightsAll_mem (List.mem_map_of_mem hy) q hq)))⟩
  have key : ∀ i, i < len → ∃ cs y, w.cells? base (a.add (i * P.cellsOf e)) (P.cellsOf e) = some cs ∧ DataW.trod enc P w base spare held n e cs = some y ∧ WtOk P e y.1 := by
   intro i hi
   have h1 := hel i hi
   have h0 : elems[i]? = some (elems[i]'(by omega)) := List.getElem?_eq_getElem (by omega)
   rw [h0] at h1
   obtain ⟨cs, h2, h3⟩ := Option.bind_eq_some_iff.1 h1
   exact ⟨cs, _, h2, h3, hwt.2 _ (List.mem_of_getElem? h0)⟩
  have hspot : 0 < len → a.spot = none := by
   intro h0
   obtain ⟨cs, y, h1, _⟩ := key 0 h0
   obtain ⟨_, hlc, hat⟩ := World.cells?_some h1
   have h2 := hat 0 hsz
   have e1 : (a.add (0 * P.cellsOf e)).add 0 = a := by simp [Addr.add]
   rw [e1] at h2
   cases hsp : a.spot with
   | none => rfl
   | some s =>
    have : w.cell? a = none := by
     unfold World.cell?
     split
     ·simp [hsp]
     ·rfl
    rw [this] at h2
    have : cs[0]? = some (cs[0]'(by omega)) := List.getElem?_eq_getElem (by omega)
    rw [this] at h2
    cases h2
  have choice : ∀ i : Fin len, ∃ (x : α) (cs : List Value), w.cells? base (a.add (i.1 * P.cellsOf e)) (P.cellsOf e) = some cs ∧ R cs x := by
   intro i
   obtain ⟨cs, y, h1, h2, h3⟩ := key i.1 i.2
   obtain ⟨x, hx⟩ := hR n cs y (by omega) h2 h3
   exact ⟨x, cs, h1, hx⟩
  refine ⟨List.ofFn fun i => Classical.choose (choice i), ⟨some a, cap, by rw [List.length_ofFn], by rw [List.length_ofFn]; exact hl, ?_⟩, by rw [List.length_ofFn, ← hlen]; exact Nat.le_trans (Nat.mul_le_mul_right _ (by omega)) hwt.1⟩
  intro i x hi
  have hil : i < len := by have := (List.getElem?_eq_some_iff.1 hi).1; simpa using this
  rw [List.getElem?_ofFn] at hi
  simp only [hil, dite_true, Option.some.injEq] at hi
  subst hi
  obtain ⟨cs, h1, h2⟩ := Classical.choose_spec (choice ⟨i, hil⟩)
  obtain ⟨_, hlc, hat⟩ := World.cells?_some h1
  have hs0 := hspot (by omega)
  obtain ⟨b, o, s⟩ := a
  simp only at hs0
  subst hs0
  have hcell : ∀ (j : Nat) (u : Value), cs[j]? = some u → w.cell? ⟨b, o + i * P.cellsOf e + j, none⟩ = some u := by
   intro j u hu
   have hj : j < P.cellsOf e := by rw [← hlc]; exact (List.getElem?_eq_some_iff.1 hu).1
   have := hat j hj
   rw [Addr.add_lit, Addr.add_lit] at this
   rw [this, hu]
  refine ⟨b, o, rfl, ?_, cs, hlc, h2, hcell⟩
  have h0 : cs[0]? = some (cs[0]'(by omega)) := List.getElem?_eq_getElem (by omega)
  exact World.block_lt_of_cell? w _ (hcell 0 _ h0)
end
section
variable {H : Type} {enc : TypeId × Value → H} {P : Program}
end
end Go.Proofs.YtbfiopoefbbknaaGreatDoor
