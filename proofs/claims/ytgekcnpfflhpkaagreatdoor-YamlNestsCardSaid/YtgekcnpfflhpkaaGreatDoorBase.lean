/-
  Words on memory for all proofs of this seat: a slice value that reads as a list, kept over whatever leaves what lies below a block number as it was.
-/
import Derived.WalkKit
import Derived.Deep.Draws
import Derived.Lib.Hide
namespace Go.Proofs.YtgekcnpfflhpkaaGreatDoor
set_option linter.unusedSimpArgs false
set_option linter.unusedVariables false
open Go.RowKit

theorem bcell {B : Nat} {W w1 : World} (hb : Below B W w1) : ∀ b o, b < B → w1.cell? ⟨b, o, none⟩ = W.cell? ⟨b, o, none⟩ :=
  fun b o h => hb.cell (p := ⟨b, o, none⟩) h
theorem bfrozen {B : Nat} {W w1 : World} (hb : Below B W w1) : ∀ b o, b < B → w1.frozen? ⟨b, o, none⟩ = W.frozen? ⟨b, o, none⟩ :=
  fun b o h => hb.frozen (p := ⟨b, o, none⟩) h
theorem below_drewN {B : Nat} {a w : World} (h : Below B a w) (n : Nat) : Below B a (w.drewN n) := ⟨h.os, h.tape, h.output, h.size, h.block⟩

/-- below block number B every cell of w' reads as in w -/
def Keeps (B : Nat) (w w' : World) : Prop := ∀ b o, b < B → w'.cell? ⟨b, o, none⟩ = w.cell? ⟨b, o, none⟩
theorem Keeps.refl (B : Nat) (w : World) : Keeps B w w := fun _ _ _ => rfl
theorem Keeps.trans {B : Nat} {a b c : World} (h : Keeps B a b) (k : Keeps B b c) : Keeps B a c := fun x o hx => (k x o hx).trans (h x o hx)
theorem Keeps.mono {B B' : Nat} {a b : World} (h : Keeps B a b) (hB : B' ≤ B) : Keeps B' a b := fun x o hx => h x o (Nat.lt_of_lt_of_le hx hB)
theorem Keeps.of_below {B : Nat} {w w' : World} (h : Below B w w') : Keeps B w w' := bcell h

/-- v is a slice value that reads, in w and below block B, as the list l: element i lies in 'size' cells, which read as R says. -/
def SlAt {α : Type} (size : Nat) (R : List Value → α → Prop) (w : World) (B : Nat) (A : Option Addr) (l : List α) : Prop :=
  ∀ (i : Nat) (x : α), l[i]? = some x → ∃ b o, A = some ⟨b, o, none⟩ ∧ b < B ∧ ∃ cs, cs.length = size ∧ R cs x ∧
    ∀ (j : Nat) (u : Value), cs[j]? = some u → w.cell? ⟨b, o + i * size + j, none⟩ = some u
def Sl {α : Type} (size : Nat) (R : List Value → α → Prop) (w : World) (B : Nat) (v : Value) (l : List α) : Prop :=
  ∃ (A : Option Addr) (cap : Nat), v = .slice A l.length cap ∧ l.length ≤ cap ∧ SlAt size R w B A l

section
variable {α : Type} {size : Nat} {R R' : List Value → α → Prop} {w w' : World} {B B' : Nat} {v : Value} {l : List α}
theorem SlAt.at_ {A : Option Addr} (h : SlAt size R w B A l) {k : Nat} (hk : k < l.length) : ∃ b o x cs, A = some ⟨b, o, none⟩ ∧ b < B ∧ l[k]? = some x ∧ cs.length = size ∧ R cs x ∧
    ∀ (j : Nat) (u : Value), cs[j]? = some u → w.cell? ⟨b, o + k * size + j, none⟩ = some u := by
  obtain ⟨b, o, hA, hb, cs, hc⟩ := h k l[k] (List.getElem?_eq_getElem hk)
  exact ⟨b, o, l[k], cs, hA, hb, List.getElem?_eq_getElem hk, hc⟩
theorem SlAt.keep {A : Option Addr} (h : SlAt size R w B A l) (hk : Keeps B w w') : SlAt size R w' B A l := by
  intro i x hi
  obtain ⟨b, o, hA, hb, cs, hl, hr, hcell⟩ := h i x hi
  exact ⟨b, o, hA, hb, cs, hl, hr, fun j u hu => (hk _ _ hb).trans (hcell j u hu)⟩
theorem SlAt.below {A : Option Addr} (h : SlAt size R w B A l) (hk : Below B w w') : SlAt size R w' B A l := h.keep (bcell hk)
theorem Sl.conv (h : Sl size R w B v l) (hB : B ≤ B') (hk : Keeps B w w') (hR : ∀ cs x, x ∈ l → R cs x → R' cs x) : Sl size R' w' B' v l := by
  obtain ⟨A, cap, hv, hc, hx⟩ := h
  refine ⟨A, cap, hv, hc, fun i x hi => ?_⟩
  obtain ⟨b, o, hA, hb, cs, hl, hr, hcell⟩ := hx i x hi
  exact ⟨b, o, hA, Nat.lt_of_lt_of_le hb hB, cs, hl, hR _ _ (List.mem_of_getElem? hi) hr, fun j u hu => (hk _ _ hb).trans (hcell j u hu)⟩
theorem Sl.keep (h : Sl size R w B v l) (hk : Keeps B w w') : Sl size R w' B v l := h.conv (Nat.le_refl _) hk fun _ _ _ => id
theorem Sl.below (h : Sl size R w B v l) (hk : Below B w w') : Sl size R w' B v l := h.keep (bcell hk)
theorem Sl.more (h : Sl size R w B v l) (hB : B ≤ B') : Sl size R w B' v l := h.conv hB (Keeps.refl _ _) fun _ _ _ => id
theorem Sl.nil (c : Nat) (A : Option Addr) : Sl size R w B (.slice A 0 c) [] := ⟨A, c, rfl, Nat.zero_le _, fun i x hi => by simp at hi⟩
/-- what the call has built by append, as a slice that reads as a list -/
theorem Sl.of_own {base : Nat} {e : TypeId} {n : Nat} {xs : List Value} (h : w.ownsRow base e size v n xs) (hn : n = l.length)
    (hR : ∀ i x, l[i]? = some x → R ((xs.drop (i * size)).take size) x) : Sl size R w w.heap.size v l := by
  subst hn
  obtain ⟨hlen, h2⟩ := h
  rcases h2 with ⟨rfl, h0⟩ | ⟨g, cap, cur, rfl, hg, hh, hnc, hm, hs, ht⟩
  · have : l = [] := List.eq_nil_of_length_eq_zero h0
    subst this
    exact Sl.nil _ _
  · refine ⟨_, cap, rfl, hnc, fun i x hi => ⟨g, 0, rfl, ?_, (xs.drop (i * size)).take size, ?_, hR i x hi, ?_⟩⟩
    · exact (Array.getElem?_eq_some_iff.1 hh).1
    · have hi' := (List.getElem?_eq_some_iff.1 hi).1
      have : (i + 1) * size ≤ l.length * size := Nat.mul_le_mul_right _ hi'
      rw [List.length_take, List.length_drop, hlen]
      rw [Nat.add_mul] at this
      omega
    · intro j u hu
      rw [List.getElem?_take] at hu
      split at hu
      · rw [List.getElem?_drop] at hu
        rw [Nat.zero_add, cell_of_row w g _ cur e (0, 0) hh, ← Array.getElem?_toList]
        rw [← ht, List.getElem?_take] at hu
        split at hu
        · exact hu
        · cases hu
      · cases hu
end

/-- a block that the call has laid whole, as a slice -/
theorem Sl.lit {α : Type} {size : Nat} {R : List Value → α → Prop} (w : World) (e : TypeId) (cells : Array Value) (l : List α) {k n : Nat} (hk : w.heap.size = k) (hn : n = l.length) (hs : cells.size = l.length * size) (hm : l.length ≤ maxLen)
    (hR : ∀ i x, l[i]? = some x → R ((cells.toList.drop (i * size)).take size) x) : Sl size R (w.alloc (.cells cells e)) (k + 1) (.slice (some ⟨k, 0, none⟩) n n) l := by
  subst hk
  subst hn
  have h : (w.alloc (.cells cells e)).ownsRow w.heap.size e size (.slice (some ⟨w.heap.size, 0, none⟩) l.length l.length) l.length cells.toList :=
    ⟨by simpa using hs, .inr ⟨w.heap.size, l.length, cells, rfl, Nat.le_refl _, heap_alloc_new w _, Nat.le_refl _, hm, hs, by rw [← hs, ← Array.length_toList, List.take_length]⟩⟩
  have := Sl.of_own h rfl hR
  simpa using this

/-- two lists of cells: what was there, and one element more -/
theorem take_drop_append {xs ys : List Value} {n size i : Nat} (h : xs.length = n * size) (hi : i < n) : ((xs ++ ys).drop (i * size)).take size = (xs.drop (i * size)).take size := by
  have : (i + 1) * size ≤ n * size := Nat.mul_le_mul_right _ hi
  rw [Nat.add_mul] at this
  rw [List.drop_append_of_le_length (by omega), List.take_append_of_le_length (by rw [List.length_drop]; omega)]
theorem take_drop_append_last {xs ys : List Value} {n size : Nat} (h : xs.length = n * size) (hy : ys.length = size) : ((xs ++ ys).drop (n * size)).take size = ys := by
  rw [← h, List.drop_left, ← hy, List.take_length]

/-- a row of the call's own that reads as the list l -/
def Own {α : Type} (e : TypeId) (size : Nat) (R : List Value → α → Prop) (w : World) (base : Nat) (v : Value) (l : List α) : Prop :=
  ∃ xs, w.ownsRow base e size v l.length xs ∧ ∀ i x, l[i]? = some x → R ((xs.drop (i * size)).take size) x
section
variable {α : Type} {e : TypeId} {size : Nat} {R R' : List Value → α → Prop} {w w' : World} {base : Nat} {v : Value} {l : List α}
theorem Own.nil (w : World) (base : Nat) (e : TypeId) (size : Nat) (R : List Value → α → Prop) : Own e size R w base (.slice none 0 0) [] :=
  ⟨[], w.ownsRow_nil base e size, fun i x hi => by simp at hi⟩
theorem Own.sl (h : Own e size R w base v l) : Sl size R w w.heap.size v l := by
  obtain ⟨xs, h1, h2⟩ := h
  exact Sl.of_own h1 rfl h2
theorem Own.conv (h : Own e size R w base v l) (hR : ∀ cs x, x ∈ l → R cs x → R' cs x) : Own e size R' w base v l := by
  obtain ⟨xs, h1, h2⟩ := h
  exact ⟨xs, h1, fun i x hi => hR _ _ (List.mem_of_getElem? hi) (h2 i x hi)⟩
theorem Own.kept (h : Own e size R w base v l) {row : Option Nat} (hg : w.grownBy w' row) (hne : v.ownBlock = none ∨ v.ownBlock ≠ row) : Own e size R w' base v l := by
  obtain ⟨xs, h1, h2⟩ := h
  exact ⟨xs, h1.kept hg hne, h2⟩
theorem Own.alloc (h : Own e size R w base v l) (o : Obj) : Own e size R (w.alloc o) base v l := by
  obtain ⟨xs, h1, h2⟩ := h
  exact ⟨xs, h1.alloc o, h2⟩
theorem Own.drew (h : Own e size R w base v l) : Own e size R w.drew base v l := h
theorem Own.drewN (h : Own e size R w base v l) (n : Nat) : Own e size R (w.drewN n) base v l := h
/-- whatever leaves what lies below B as it was, where the row lies below B -/
theorem Own.below (h : Own e size R w base v l) {B : Nat} (hb : Below B w w') (hB : w.heap.size ≤ B) : Own e size R w' base v l := by
  obtain ⟨xs, h1, h2⟩ := h
  refine ⟨xs, ⟨h1.1, ?_⟩, h2⟩
  rcases h1.2 with h3 | ⟨g, cap, cur, hv, hg, hh, r⟩
  · exact .inl h3
  · exact .inr ⟨g, cap, cur, hv, hg, by rw [hb.block g (Nat.lt_of_lt_of_le (Array.getElem?_eq_some_iff.1 hh).1 hB)]; exact hh, r⟩
theorem Own.snoc {xs news : List Value} {x : α} (h : w.ownsRow base e size v (l.length + 1) (xs ++ news)) (hl : xs.length = l.length * size) (hn : news.length = size)
    (hR : ∀ i x, l[i]? = some x → R ((xs.drop (i * size)).take size) x) (hx : R news x) : Own e size R w base v (l ++ [x]) := by
  refine ⟨xs ++ news, by simpa using h, fun i y hi => ?_⟩
  by_cases hlt : i < l.length
  · rw [take_drop_append hl hlt]
    exact hR i y (by rw [← hi, List.getElem?_append_left hlt])
  · have hi' := (List.getElem?_eq_some_iff.1 hi).1
    have : i = l.length := by simp at hi'; omega
    subst this
    simp at hi
    subst hi
    rw [take_drop_append_last hl hn]
    exact hx
end
end Go.Proofs.YtgekcnpfflhpkaaGreatDoor
