/-
  yaml.emit and what it captures, walked: any value, laid into a Builder that is handed on by pointer.
-/
import Derived.Test.YtpcddcfpbohogaaDoorPw
import Derived.Test.YtpcddcfpbohogaaDoorBld
import Derived.Test.YtpcddcfpbohogaaDoorEmP
import Derived.Test.YtpcddcfpbohogaaDoorLst
import Derived.Deep.RegionWith
namespace Go.Proofs.YtpcddcfpbohogaaDoor
set_option linter.unusedSimpArgs false
set_option linter.unusedVariables false
open Go.RowKit

/-- a value's cells in memory -/
theorem val_open {σ : Sg} {u : Value} {x : V} (h : RelP σ u (.agg [.int .i64 (x).kind, .bool (x).b, .int .i64 (x).n, .str (x).s, .lst .any 6 (rowsV (x).l), .lst .any 7 (rowsM (x).m)])) : ∃ (A C : Option Addr) (c d : Nat), u = .agg #[.int .i64 (x).kind, .bool (x).b, .int .i64 (x).n, .string (x).s, .slice A (x).l.length c, .slice C (x).m.length d] ∧ Rel1 σ (.slice A x.l.length c) (.lst .any 6 (rowsV x.l)) ∧ Rel1 σ (.slice C x.m.length d) (.lst .any 7 (rowsM x.m)) := by
  obtain ⟨vs, rfl, hl⟩ := h
  have h6 : vs.length = 6 := hl.1
  obtain ⟨v0, v1, v2, v3, v4, v5, rfl⟩ : ∃ a b c d e f, vs = [a, b, c, d, e, f] := by
    rcases vs with _ | ⟨a, _ | ⟨b, _ | ⟨c, _ | ⟨d, _ | ⟨e, _ | ⟨f, _ | ⟨g, l⟩⟩⟩⟩⟩⟩⟩ <;> simp at h6
    exact ⟨a, b, c, d, e, f, rfl⟩
  have r0 := hl.2 0 v0 _ rfl rfl
  have r1 := hl.2 1 v1 _ rfl rfl
  have r2 := hl.2 2 v2 _ rfl rfl
  have r3 := hl.2 3 v3 _ rfl rfl
  have r4 := hl.2 4 v4 _ rfl rfl
  have r5 := hl.2 5 v5 _ rfl rfl
  cases r0; cases r1; cases r2; cases r3
  obtain ⟨A, c, _, _, _, rfl, _⟩ := lst_cells r4
  obtain ⟨C, d, _, _, _, rfl, _⟩ := lst_cells r5
  rw [rowsV_len] at r4
  rw [rowsM_len] at r5
  exact ⟨A, C, c, d, by simp [rowsV_len, rowsM_len], r4, r5⟩
theorem val_close {σ : Sg} {x : V} {A C : Option Addr} {c d : Nat} (h4 : Rel1 σ (.slice A x.l.length c) (.lst .any 6 (rowsV x.l))) (h5 : Rel1 σ (.slice C x.m.length d) (.lst .any 7 (rowsM x.m))) : RelP σ (.agg #[.int .i64 (x).kind, .bool (x).b, .int .i64 (x).n, .string (x).s, .slice A (x).l.length c, .slice C (x).m.length d]) (.agg [.int .i64 (x).kind, .bool (x).b, .int .i64 (x).n, .str (x).s, .lst .any 6 (rowsV (x).l), .lst .any 7 (rowsM (x).m)]) :=
  ⟨_, rfl, .cons (.int _ _) (.cons (.bool _) (.cons (.int _ _) (.cons (.str _) (.cons h4 (.cons h5 .nil)))))⟩
theorem elem_cells {σ : Sg} {w : World} (hh : Holds σ w) {A : Option Addr} {n c esz : Nat} {l : List (List AV)} (h : Rel1 σ (.slice A n c) (.lst .any esz l)) {k : Nat} {cs : List AV} (hg : l[k]? = some cs) :
    ∃ (b o : Nat) (f : Nat → Value), A = some ⟨b, o, none⟩ ∧ ∀ j a, cs[j]? = some a → w.cell? ⟨b, o + k * esz + j, none⟩ = some (f j) ∧ Rel1 σ (f j) a := by
  cases h with
  | lst t esz l A n cap b o f hn hlen hA hsz hσ hr ht =>
    have hk := (List.getElem?_eq_some_iff.1 hg).1
    refine ⟨b, o, f k, hA (by omega), fun j a ha => ⟨hh _ _ _ (hσ k j (by omega) ?_), hr k j cs a hg ha⟩⟩
    rw [← hsz k cs hg]
    exact (List.getElem?_eq_some_iff.1 ha).1
/-- an element of a list of values -/
theorem elem_val {σ : Sg} {w : World} (hh : Holds σ w) {A : Option Addr} {n c : Nat} {l : List V} (h : Rel1 σ (.slice A n c) (.lst .any 6 (rowsV l))) {k : Nat} {x : V} (hg : l[k]? = some x) :
    ∃ (b o : Nat) (A1 A2 : Option Addr) (n1 n2 : Nat), A = some ⟨b, o, none⟩ ∧ RelP σ (.agg #[.int .i64 (x).kind, .bool (x).b, .int .i64 (x).n, .string (x).s, .slice A1 (x).l.length n1, .slice A2 (x).m.length n2]) (.agg [.int .i64 (x).kind, .bool (x).b, .int .i64 (x).n, .str (x).s, .lst .any 6 (rowsV (x).l), .lst .any 7 (rowsM (x).m)]) ∧
      w.cell? ⟨b, o + k * 6, none⟩ = some (.int .i64 x.kind) ∧ w.cell? ⟨b, o + k * 6 + 1, none⟩ = some (.bool x.b) ∧ w.cell? ⟨b, o + k * 6 + 2, none⟩ = some (.int .i64 x.n) ∧
      w.cell? ⟨b, o + k * 6 + 3, none⟩ = some (.string x.s) ∧ w.cell? ⟨b, o + k * 6 + 4, none⟩ = some (.slice A1 x.l.length n1) ∧ w.cell? ⟨b, o + k * 6 + 5, none⟩ = some (.slice A2 x.m.length n2) := by
  obtain ⟨b, o, f, rfl, hf⟩ := elem_cells hh h (rowsV_at hg)
  obtain ⟨c0, r0⟩ := hf 0 _ rfl
  obtain ⟨c1, r1⟩ := hf 1 _ rfl
  obtain ⟨c2, r2⟩ := hf 2 _ rfl
  obtain ⟨c3, r3⟩ := hf 3 _ rfl
  obtain ⟨c4, r4⟩ := hf 4 _ rfl
  obtain ⟨c5, r5⟩ := hf 5 _ rfl
  obtain ⟨A1, A2, n1, n2, e, _⟩ := val_open (x := x) (u := .agg #[f 0, f 1, f 2, f 3, f 4, f 5]) ⟨[f 0, f 1, f 2, f 3, f 4, f 5], rfl, .cons r0 (.cons r1 (.cons r2 (.cons r3 (.cons r4 (.cons r5 .nil)))))⟩
  injection e with e
  have e := congrArg Array.toList e
  simp only [List.cons.injEq] at e
  obtain ⟨e0, e1, e2, e3, e4, e5, _⟩ := e
  rw [e0] at c0 r0; rw [e1] at c1 r1; rw [e2] at c2 r2; rw [e3] at c3 r3; rw [e4] at c4 r4; rw [e5] at c5 r5
  exact ⟨b, o, A1, A2, n1, n2, rfl, val_close r4 r5, c0, c1, c2, c3, c4, c5⟩
/-- an element of a list of pairs -/
theorem elem_pair {σ : Sg} {w : World} (hh : Holds σ w) {A : Option Addr} {n c : Nat} {l : List (ByteArray × V)} (h : Rel1 σ (.slice A n c) (.lst .any 7 (rowsM l))) {k : Nat} {y : ByteArray} {x : V} (hg : l[k]? = some (y, x)) :
    ∃ (b o : Nat) (A1 A2 : Option Addr) (n1 n2 : Nat), A = some ⟨b, o, none⟩ ∧ RelP σ (.agg #[.int .i64 (x).kind, .bool (x).b, .int .i64 (x).n, .string (x).s, .slice A1 (x).l.length n1, .slice A2 (x).m.length n2]) (.agg [.int .i64 (x).kind, .bool (x).b, .int .i64 (x).n, .str (x).s, .lst .any 6 (rowsV (x).l), .lst .any 7 (rowsM (x).m)]) ∧ w.cell? ⟨b, o + k * 7, none⟩ = some (.string y) ∧
      w.cell? ⟨b, o + k * 7 + 1, none⟩ = some (.int .i64 x.kind) ∧ w.cell? ⟨b, o + k * 7 + 2, none⟩ = some (.bool x.b) ∧ w.cell? ⟨b, o + k * 7 + 3, none⟩ = some (.int .i64 x.n) ∧
      w.cell? ⟨b, o + k * 7 + 4, none⟩ = some (.string x.s) ∧ w.cell? ⟨b, o + k * 7 + 5, none⟩ = some (.slice A1 x.l.length n1) ∧ w.cell? ⟨b, o + k * 7 + 6, none⟩ = some (.slice A2 x.m.length n2) := by
  obtain ⟨b, o, f, rfl, hf⟩ := elem_cells hh h (rowsM_at hg)
  obtain ⟨cy, ry⟩ := hf 0 _ rfl
  obtain ⟨c0, r0⟩ := hf 1 _ rfl
  obtain ⟨c1, r1⟩ := hf 2 _ rfl
  obtain ⟨c2, r2⟩ := hf 3 _ rfl
  obtain ⟨c3, r3⟩ := hf 4 _ rfl
  obtain ⟨c4, r4⟩ := hf 5 _ rfl
  obtain ⟨c5, r5⟩ := hf 6 _ rfl
  obtain ⟨A1, A2, n1, n2, e, _⟩ := val_open (x := x) (u := .agg #[f 1, f 2, f 3, f 4, f 5, f 6]) ⟨[f 1, f 2, f 3, f 4, f 5, f 6], rfl, .cons r0 (.cons r1 (.cons r2 (.cons r3 (.cons r4 (.cons r5 .nil)))))⟩
  injection e with e
  have e := congrArg Array.toList e
  simp only [List.cons.injEq] at e
  obtain ⟨e0, e1, e2, e3, e4, e5, _⟩ := e
  rw [e0] at c0 r0; rw [e1] at c1 r1; rw [e2] at c2 r2; rw [e3] at c3 r3; rw [e4] at c4 r4; rw [e5] at c5 r5
  cases hy : f 0 <;> rw [hy] at ry <;> cases ry
  rw [hy] at cy
  exact ⟨b, o, A1, A2, n1, n2, rfl, val_close r4 r5, cy, c0, c1, c2, c3, c4, c5⟩
/-- a contract whose result is a text, over worlds -/
theorem ac_str {f : FuncId} {args : List AV} {s : ByteArray} (h : AC Tryd.prog f args (.str s)) {σ : Sg} {w : World} {vs : List Value} (hh : Holds σ w) (hr : RelPs σ vs args) (hg : GW w) : Calls Tryd.prog f vs.toArray w fun e w' => e = .returned (.string s) ∧ Below w.heap.size w w' := by
  refine (h.run σ w vs hh hr hg).mono ?_
  rintro e w' ⟨σ', v, rfl, _, _, hb, hr⟩
  have hr : Rel1 σ' v (.str s) := hr
  cases hr
  exact ⟨rfl, hb⟩
theorem repL : ∀ n, Lib.repeatL [32] n = List.replicate n 32
  | 0 => rfl
  | n + 1 => by
    show [32] ++ Lib.repeatL [32] n = _
    rw [repL n]
    rfl
/-- so many blanks -/
theorem repeat_any (k : Nat) (hk : k ≤ 1000000000000) (w : World) : Calls Tryd.prog 76 #[.string ⟨#[32]⟩, .int .i64 k] w fun e w' => e = .returned (.string (padB k)) ∧ Below w.heap.size w w' := by
  rcases k with _ | _ | k
  · refine (Tryd.strings_Repeat_zero ⟨#[32]⟩ w).mono ?_
    rintro e w' ⟨rfl, rfl⟩
    exact ⟨rfl, Below.refl _ _⟩
  · refine (Tryd.strings_Repeat_one ⟨#[32]⟩ w).mono ?_
    rintro e w' ⟨rfl, rfl⟩
    exact ⟨rfl, Below.refl _ _⟩
  · refine (Tryd.strings_Repeat_main ⟨#[32]⟩ (k + 1 + 1) w (by omega) (by omega) (by show 1 * (k + 1 + 1) ≤ _; omega) (by decide)).mono ?_
    rintro e w' ⟨rfl, hb⟩
    refine ⟨?_, hb⟩
    rw [show (ByteArray.mk #[32]).data.toList = [32] from rfl, repL]
    rfl
theorem kept_block {e : TypeId} {b : Nat} {w w' : World} (h : Lib.OthersKept e (some b) w w') {g : Nat} {cs : Array Value} {T : TypeId} {fz : Nat × Nat} (hg : w.heap[g]? = some (.cells cs T fz)) (hT : T ≠ e) (hb : g ≠ b) : w'.heap[g]? = some (.cells cs T fz) :=
  h g _ hg (fun x => hb (Option.some.inj x)) (fun c f x => hT (by injection x))
theorem kept_of_below {e : TypeId} {b : Option Nat} {w w' : World} (h : Below w.heap.size w w') : Lib.OthersKept e b w w' := fun k o hk _ _ => (h.block k (Array.getElem?_eq_some_iff.1 hk).1).trans hk
end Go.Proofs.YtpcddcfpbohogaaDoor
