/-
  The document's values as a type of our own, and how a struct api.Value in memory reads as one.
-/
import Derived.Test.YtgekcnpfflhpkaaGreatDoorLaws
namespace Go.Proofs.YtgekcnpfflhpkaaGreatDoor
set_option linter.unusedSimpArgs false
set_option linter.unusedVariables false
open Go.RowKit

inductive V where
  | mk (kind : Int) (b : Bool) (n : Int) (s : ByteArray) (l : List V) (m : List (ByteArray × V))
def V.kind : V → Int | .mk k _ _ _ _ _ => k
def V.b : V → Bool | .mk _ b _ _ _ _ => b
def V.n : V → Int | .mk _ _ n _ _ _ => n
def V.s : V → ByteArray | .mk _ _ _ s _ _ => s
def V.l : V → List V | .mk _ _ _ _ l _ => l
def V.m : V → List (ByteArray × V) | .mk _ _ _ _ _ m => m
def noBytes : ByteArray := ⟨#[]⟩
def V.null : V := .mk 0 false 0 noBytes [] []
theorem V.ext_iff' {a b : V} : a = b ↔ a.kind = b.kind ∧ a.b = b.b ∧ a.n = b.n ∧ a.s = b.s ∧ a.l = b.l ∧ a.m = b.m := by
  cases a; cases b
  simp [V.kind, V.b, V.n, V.s, V.l, V.m]
instance : Inhabited V := ⟨V.null⟩

/-- a pair's cells: the key, then the value's -/
def SB (s : ByteArray) : Prop := s.size ≤ 140737488355328
def PairR (R : List Value → V → Prop) (cs : List Value) (p : ByteArray × V) : Prop := ∃ vs, cs = .string p.1 :: vs ∧ SB p.1 ∧ R vs p.2
/-- the cells cs, in w and below block B, read as v, whose depth is at most d -/
def Rep : Nat → World → Nat → List Value → V → Prop
  | 0, _, _, _, _ => False
  | d + 1, w, B, cs, v => ∃ sl sm : Value, cs = [.int .i64 v.kind, .bool v.b, .int .i64 v.n, .string v.s, sl, sm] ∧ SB v.s ∧ Sl 6 (Rep d w B) w B sl v.l ∧ Sl 7 (PairR (Rep d w B)) w B sm v.m

theorem PairR.imp {R R' : List Value → V → Prop} {cs : List Value} {p : ByteArray × V} (h : PairR R cs p) (hR : ∀ vs, R vs p.2 → R' vs p.2) : PairR R' cs p := by
  obtain ⟨vs, h1, h0, h2⟩ := h
  exact ⟨vs, h1, h0, hR vs h2⟩
theorem Rep.conv : ∀ {d d' : Nat} {w w' : World} {B B' : Nat} {cs : List Value} {v : V}, Rep d w B cs v → d ≤ d' → B ≤ B' → Keeps B w w' → Rep d' w' B' cs v
  | 0, _, _, _, _, _, _, _, h, _, _, _ => h.elim
  | d + 1, 0, _, _, _, _, _, _, _, hd, _, _ => by omega
  | d + 1, d' + 1, w, w', B, B', cs, v, h, hd, hB, hk => by
    obtain ⟨sl, sm, h1, h0, h2, h3⟩ := h
    exact ⟨sl, sm, h1, h0, h2.conv hB hk (fun cs x _ hx => Rep.conv hx (by omega) hB hk), h3.conv hB hk (fun cs p _ hx => hx.imp fun vs hv => Rep.conv hv (by omega) hB hk)⟩
section
variable {d d' : Nat} {w w' : World} {B B' : Nat} {cs : List Value} {v : V}
theorem Rep.keep (h : Rep d w B cs v) (hk : Keeps B w w') : Rep d w' B cs v := h.conv (Nat.le_refl _) (Nat.le_refl _) hk
theorem Rep.below (h : Rep d w B cs v) (hk : Below B w w') : Rep d w' B cs v := h.keep (bcell hk)
theorem Rep.more (h : Rep d w B cs v) (hB : B ≤ B') : Rep d w B' cs v := h.conv (Nat.le_refl _) hB (Keeps.refl _ _)
theorem Rep.up (h : Rep d w B cs v) (hd : d ≤ d') : Rep d' w B cs v := h.conv hd (Nat.le_refl _) (Keeps.refl _ _)
/-- from one world's top to a later world's top -/
theorem Rep.on (h : Rep d w B cs v) (hk : Below B w w') (hB : B ≤ B') : Rep d w' B' cs v := (h.below hk).more hB
theorem Rep.pos (h : Rep d w B cs v) : ∃ e, d = e + 1 := by
  cases d with
  | zero => exact h.elim
  | succ e => exact ⟨e, rfl⟩
/-- the value's cells written out -/
theorem Rep.open_ (h : Rep (d + 1) w B cs v) : ∃ (A : Option Addr) (c : Nat) (A' : Option Addr) (c' : Nat), cs = [.int .i64 v.kind, .bool v.b, .int .i64 v.n, .string v.s, .slice A v.l.length c, .slice A' v.m.length c'] ∧
    v.l.length ≤ c ∧ SlAt 6 (Rep d w B) w B A v.l ∧ v.m.length ≤ c' ∧ SlAt 7 (PairR (Rep d w B)) w B A' v.m := by
  obtain ⟨sl, sm, h1, _, ⟨A, c, rfl, h2, h3⟩, ⟨A', c', rfl, h4, h5⟩⟩ := h
  exact ⟨A, c, A', c', h1, h2, h3, h4, h5⟩
theorem Rep.mk_ {A A' : Option Addr} {c c' : Nat} {k n : Int} {b : Bool} {s : ByteArray} {l : List V} {m : List (ByteArray × V)} (h0 : SB s) (h1 : Sl 6 (Rep d w B) w B (.slice A l.length c) l) (h2 : Sl 7 (PairR (Rep d w B)) w B (.slice A' m.length c') m) :
    Rep (d + 1) w B [.int .i64 k, .bool b, .int .i64 n, .string s, .slice A l.length c, .slice A' m.length c'] (.mk k b n s l m) := ⟨_, _, rfl, h0, h1, h2⟩
theorem Rep.sb (h : Rep d w B cs v) : SB v.s := by
  obtain ⟨e, rfl⟩ := h.pos
  obtain ⟨_, _, _, h0, _⟩ := h
  exact h0
theorem Rep.len (h : Rep d w B cs v) : cs.length = 6 := by
  obtain ⟨e, rfl⟩ := h.pos
  obtain ⟨_, _, rfl, _⟩ := h
  rfl
theorem Rep.one (h : Rep d w B cs v) : ∀ u ∈ cs, u.oneCell' = true := by
  obtain ⟨e, rfl⟩ := h.pos
  obtain ⟨A, c, A', c', rfl, _⟩ := h.open_
  simp [Value.oneCell']
theorem PairR.one {p : ByteArray × V} (h : PairR (Rep d w B) cs p) : ∀ u ∈ cs, u.oneCell' = true := by
  obtain ⟨vs, rfl, _, h1⟩ := h
  intro u hu
  rcases List.mem_cons.1 hu with rfl | hu
  · rfl
  · exact h1.one u hu
theorem Rep.nothing (w : World) (B : Nat) (k : Int) (b : Bool) (n : Int) (s : ByteArray) (h0 : SB s) : Rep (d + 1) w B [.int .i64 k, .bool b, .int .i64 n, .string s, .slice none 0 0, .slice none 0 0] (.mk k b n s [] []) :=
  ⟨_, _, rfl, h0, Sl.nil _ _, Sl.nil _ _⟩
end
theorem SlAt.conv {α : Type} {size : Nat} {R R' : List Value → α → Prop} {w w' : World} {B B' : Nat} {A : Option Addr} {l : List α} (h : SlAt size R w B A l) (hB : B ≤ B') (hk : Keeps B w w') (hR : ∀ cs x, R cs x → R' cs x) : SlAt size R' w' B' A l := by
  intro i x hi
  obtain ⟨b, o, hA, hb, cs, hl, hr, hcell⟩ := h i x hi
  exact ⟨b, o, hA, Nat.lt_of_lt_of_le hb hB, cs, hl, hR _ _ hr, fun j u hu => (hk _ _ hb).trans (hcell j u hu)⟩
theorem vals_on {d d' : Nat} {w w' : World} {B B' : Nat} {A : Option Addr} {l : List V} (h : SlAt 6 (Rep d w B) w B A l) (hk : Below B w w') (hB : B ≤ B') (hd : d ≤ d') : SlAt 6 (Rep d' w' B') w' B' A l :=
  h.conv hB (bcell hk) fun _ _ hx => hx.conv hd hB (bcell hk)
theorem pairs_on {d d' : Nat} {w w' : World} {B B' : Nat} {A : Option Addr} {l : List (ByteArray × V)} (h : SlAt 7 (PairR (Rep d w B)) w B A l) (hk : Below B w w') (hB : B ≤ B') (hd : d ≤ d') : SlAt 7 (PairR (Rep d' w' B')) w' B' A l :=
  h.conv hB (bcell hk) fun _ _ hx => hx.imp fun _ hv => hv.conv hd hB (bcell hk)
theorem valsSl_on {d d' : Nat} {w w' : World} {B B' : Nat} {v : Value} {l : List V} (h : Sl 6 (Rep d w B) w B v l) (hk : Below B w w') (hB : B ≤ B') (hd : d ≤ d') : Sl 6 (Rep d' w' B') w' B' v l :=
  h.conv hB (bcell hk) fun _ _ _ hx => hx.conv hd hB (bcell hk)
theorem pairsSl_on {d d' : Nat} {w w' : World} {B B' : Nat} {v : Value} {l : List (ByteArray × V)} (h : Sl 7 (PairR (Rep d w B)) w B v l) (hk : Below B w w') (hB : B ≤ B') (hd : d ≤ d') : Sl 7 (PairR (Rep d' w' B')) w' B' v l :=
  h.conv hB (bcell hk) fun _ _ _ hx => hx.imp fun _ hv => hv.conv hd hB (bcell hk)
/-- element k of a list in memory: its cells -/
theorem vals_at {d : Nat} {w : World} {B : Nat} {A : Option Addr} {l : List V} (h : SlAt 6 (Rep d w B) w B A l) {k : Nat} (hk : k < l.length) :
    ∃ b o x c0 c1 c2 c3 c4 c5, A = some ⟨b, o, none⟩ ∧ b < B ∧ l[k]? = some x ∧ Rep d w B [c0, c1, c2, c3, c4, c5] x ∧ w.cell? ⟨b, o + k * 6, none⟩ = some c0 ∧ w.cell? ⟨b, o + k * 6 + 1, none⟩ = some c1 ∧ w.cell? ⟨b, o + k * 6 + 2, none⟩ = some c2 ∧
      w.cell? ⟨b, o + k * 6 + 3, none⟩ = some c3 ∧ w.cell? ⟨b, o + k * 6 + 4, none⟩ = some c4 ∧ w.cell? ⟨b, o + k * 6 + 5, none⟩ = some c5 := by
  obtain ⟨b, o, x, cs, hA, hb, hx, hl, hR, hc⟩ := h.at_ hk
  obtain ⟨e, rfl⟩ := hR.pos
  obtain ⟨A1, c1, A2, c2, rfl, _⟩ := hR.open_
  exact ⟨b, o, x, _, _, _, _, _, _, hA, hb, hx, hR, hc 0 _ rfl, hc 1 _ rfl, hc 2 _ rfl, hc 3 _ rfl, hc 4 _ rfl, hc 5 _ rfl⟩
/-- the same, the cells written out -/
theorem vals_at' {d : Nat} {w : World} {B : Nat} {A : Option Addr} {l : List V} (h : SlAt 6 (Rep d w B) w B A l) {k : Nat} (hk : k < l.length) :
    ∃ (b o : Nat) (x : V) (A1 : Option Addr) (n1 : Nat) (A2 : Option Addr) (n2 : Nat), A = some ⟨b, o, none⟩ ∧ b < B ∧ l[k]? = some x ∧ Rep d w B [.int .i64 x.kind, .bool x.b, .int .i64 x.n, .string x.s, .slice A1 x.l.length n1, .slice A2 x.m.length n2] x ∧
      w.cell? ⟨b, o + k * 6, none⟩ = some (.int .i64 x.kind) ∧ w.cell? ⟨b, o + k * 6 + 1, none⟩ = some (.bool x.b) ∧ w.cell? ⟨b, o + k * 6 + 2, none⟩ = some (.int .i64 x.n) ∧
      w.cell? ⟨b, o + k * 6 + 3, none⟩ = some (.string x.s) ∧ w.cell? ⟨b, o + k * 6 + 4, none⟩ = some (.slice A1 x.l.length n1) ∧ w.cell? ⟨b, o + k * 6 + 5, none⟩ = some (.slice A2 x.m.length n2) := by
  obtain ⟨b, o, x, cs, hA, hb, hx, hl, hR, hc⟩ := h.at_ hk
  obtain ⟨e, rfl⟩ := hR.pos
  obtain ⟨A1, c1, A2, c2, rfl, _⟩ := hR.open_
  exact ⟨b, o, x, _, _, _, _, hA, hb, hx, hR, hc 0 _ rfl, hc 1 _ rfl, hc 2 _ rfl, hc 3 _ rfl, hc 4 _ rfl, hc 5 _ rfl⟩
theorem pairs_at {d : Nat} {w : World} {B : Nat} {A : Option Addr} {l : List (ByteArray × V)} (h : SlAt 7 (PairR (Rep d w B)) w B A l) {k : Nat} (hk : k < l.length) :
    ∃ (b o : Nat) (y : ByteArray) (x : V) (A1 : Option Addr) (n1 : Nat) (A2 : Option Addr) (n2 : Nat), A = some ⟨b, o, none⟩ ∧ b < B ∧ l[k]? = some (y, x) ∧ SB y ∧ Rep d w B [.int .i64 x.kind, .bool x.b, .int .i64 x.n, .string x.s, .slice A1 x.l.length n1, .slice A2 x.m.length n2] x ∧
      w.cell? ⟨b, o + k * 7, none⟩ = some (.string y) ∧ w.cell? ⟨b, o + k * 7 + 1, none⟩ = some (.int .i64 x.kind) ∧ w.cell? ⟨b, o + k * 7 + 2, none⟩ = some (.bool x.b) ∧ w.cell? ⟨b, o + k * 7 + 3, none⟩ = some (.int .i64 x.n) ∧
      w.cell? ⟨b, o + k * 7 + 4, none⟩ = some (.string x.s) ∧ w.cell? ⟨b, o + k * 7 + 5, none⟩ = some (.slice A1 x.l.length n1) ∧ w.cell? ⟨b, o + k * 7 + 6, none⟩ = some (.slice A2 x.m.length n2) := by
  obtain ⟨b, o, p, cs, hA, hb, hx, hl, hR, hc⟩ := h.at_ hk
  obtain ⟨vs, rfl, hy, hR⟩ := hR
  obtain ⟨e, rfl⟩ := hR.pos
  obtain ⟨A1, c1, A2, c2, rfl, _⟩ := hR.open_
  exact ⟨b, o, p.1, p.2, _, _, _, _, hA, hb, hx, hy, hR, hc 0 _ rfl, hc 1 _ rfl, hc 2 _ rfl, hc 3 _ rfl, hc 4 _ rfl, hc 5 _ rfl, hc 6 _ rfl⟩

mutual
def V.size : V → Nat
  | .mk _ _ _ _ l m => 1 + sizeL l + sizeM m
def sizeL : List V → Nat
  | [] => 0
  | x :: l => x.size + sizeL l
def sizeM : List (ByteArray × V) → Nat
  | [] => 0
  | (_, x) :: m => x.size + sizeM m
end
mutual
def V.depth : V → Nat
  | .mk _ _ _ _ l m => max (depthL l) (depthM m) + 1
def depthL : List V → Nat
  | [] => 0
  | x :: l => max x.depth (depthL l)
def depthM : List (ByteArray × V) → Nat
  | [] => 0
  | (_, x) :: m => max x.depth (depthM m)
end
theorem V.size_eq (v : V) : v.size = 1 + sizeL v.l + sizeM v.m := by cases v; simp [V.size, V.l, V.m]
theorem V.depth_eq (v : V) : v.depth = max (depthL v.l) (depthM v.m) + 1 := by cases v; simp [V.depth, V.l, V.m]
theorem sizeL_append (a b : List V) : sizeL (a ++ b) = sizeL a + sizeL b := by
  induction a with
  | nil => simp [sizeL]
  | cons x a ih => (simp [sizeL, ih] <;> omega)
theorem sizeM_append (a b : List (ByteArray × V)) : sizeM (a ++ b) = sizeM a + sizeM b := by
  induction a with
  | nil => simp [sizeM]
  | cons x a ih => obtain ⟨k, x⟩ := x; (simp [sizeM, ih] <;> omega)
theorem depthL_append (a b : List V) : depthL (a ++ b) = max (depthL a) (depthL b) := by
  induction a with
  | nil => simp [depthL]
  | cons x a ih => (simp [depthL, ih] <;> omega)
theorem depthM_append (a b : List (ByteArray × V)) : depthM (a ++ b) = max (depthM a) (depthM b) := by
  induction a with
  | nil => simp [depthM]
  | cons x a ih => obtain ⟨k, x⟩ := x; (simp [depthM, ih] <;> omega)
theorem take_snoc {α : Type} {l : List α} {k : Nat} {x : α} (h : l[k]? = some x) : l.take (k + 1) = l.take k ++ [x] := by rw [List.take_add_one, h]; rfl
theorem sizeL_take {l : List V} {k : Nat} {x : V} (h : l[k]? = some x) : sizeL (l.take (k + 1)) = sizeL (l.take k) + x.size := by rw [take_snoc h, sizeL_append]; simp [sizeL]
theorem sizeM_take {l : List (ByteArray × V)} {k : Nat} {y : ByteArray} {x : V} (h : l[k]? = some (y, x)) : sizeM (l.take (k + 1)) = sizeM (l.take k) + x.size := by rw [take_snoc h, sizeM_append]; simp [sizeM]
theorem depthL_take {l : List V} {k : Nat} {x : V} (h : l[k]? = some x) : depthL (l.take (k + 1)) = max (depthL (l.take k)) x.depth := by rw [take_snoc h, depthL_append]; simp [depthL]
theorem depthM_take {l : List (ByteArray × V)} {k : Nat} {y : ByteArray} {x : V} (h : l[k]? = some (y, x)) : depthM (l.take (k + 1)) = max (depthM (l.take k)) x.depth := by rw [take_snoc h, depthM_append]; simp [depthM]
theorem sizeL_take_le (l : List V) (k : Nat) : sizeL (l.take k) ≤ sizeL l := by
  have := sizeL_append (l.take k) (l.drop k)
  rw [List.take_append_drop] at this; omega
theorem sizeM_take_le (l : List (ByteArray × V)) (k : Nat) : sizeM (l.take k) ≤ sizeM l := by
  have := sizeM_append (l.take k) (l.drop k)
  rw [List.take_append_drop] at this; omega
theorem depthL_take_le (l : List V) (k : Nat) : depthL (l.take k) ≤ depthL l := by
  have := depthL_append (l.take k) (l.drop k)
  rw [List.take_append_drop] at this; omega
theorem depthM_take_le (l : List (ByteArray × V)) (k : Nat) : depthM (l.take k) ≤ depthM l := by
  have := depthM_append (l.take k) (l.drop k)
  rw [List.take_append_drop] at this; omega
theorem V.size_pos (v : V) : 1 ≤ v.size := by rw [V.size_eq]; omega
theorem len_le_sizeL (l : List V) : l.length ≤ sizeL l := by
  induction l with
  | nil => simp
  | cons x l ih => have := x.size_pos; simp [sizeL]; omega
theorem len_le_sizeM (l : List (ByteArray × V)) : l.length ≤ sizeM l := by
  induction l with
  | nil => simp
  | cons x l ih => obtain ⟨k, x⟩ := x; have := x.size_pos; simp [sizeM]; omega
end Go.Proofs.YtgekcnpfflhpkaaGreatDoor

