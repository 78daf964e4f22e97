/-
  The abstract walk: when a frame and a world are as an abstract frame and state say; what keeps that.
-/
import Derived.Test.YtpcddcfpbohogaaDoorA2
namespace Go.Proofs.YtpcddcfpbohogaaDoor
set_option linter.unusedSimpArgs false
set_option linter.unusedVariables false
open Go.RowKit

/-- what a call began with: its world, how many slots it has, the cells that stay -/
structure Env where
  w0 : World
  n : Nat
  σ0 : Sg
  gw : GW w0
/-- a row of the call's own: its block, how many elements it has, an element's cells, the room -/
structure RowI where
  g : Nat
  n : Nat
  esz : Nat
  cap : Nat
/-- a row that a call has made anew -/
structure FRow where
  g : Nat
  cap : Nat
  esz : Nat
  rows : List (List AV)
/-- cells that stay; the blocks of variables; the blocks of rows, by slot and version, with their length -/
structure Gho where
  σ : Sg
  B : Nat → Option Nat
  ρ : Nat → Nat → Option RowI
  φ : Nat → Option FRow
def TagOk (G : Gho) (v : Value) (a : AV) : Prop :=
  match a with
  | .lst (.own s ver) esz l => (∃ A, v = .slice A l.length l.length) ∨ ∃ g cap, v = .slice (some ⟨g, 0, none⟩) l.length cap ∧ G.ρ s ver = some ⟨g, l.length, esz, cap⟩
  | .sli id _ n cap => 1000000 ≤ id ∧ n ≤ cap ∧ ∃ g, v = .slice (some ⟨g, 0, none⟩) n cap ∧ ∀ g', G.B id = some g' → g' = g
  | .frs k esz rows => ∃ g cap, G.φ k = some ⟨g, cap, esz, rows⟩ ∧ v = .slice (some ⟨g, 0, none⟩) rows.length cap
  | _ => True
def TagsOk (G : Gho) (vs : List Value) (cs : List AV) : Prop := ∀ (j : Nat) v a, vs[j]? = some v → cs[j]? = some a → TagOk G v a
/-- a slot -/
def RelS0 (G : Gho) (v : Value) (a : AV) : Prop :=
  match a with
  | .when _ _ => False
  | .agg cs => ∃ vs : List Value, v = .agg vs.toArray ∧ RelL G.σ vs (cs.map AV.unown) ∧ TagsOk G vs cs
  | .tup l => RelR G.σ v (.tup l)
  | .ptr id off => ∃ g, G.B id = some g ∧ v = .pointer (some ⟨g, off, none⟩) ∧ id < 1000000
  | .pel id esz i k _ => 1000000 ≤ id ∧ ∃ g, v = .pointer (some ⟨g, i * esz + k, none⟩) ∧ ∀ g', G.B id = some g' → g' = g
  | a => Rel1 G.σ v a.unown ∧ TagOk G v a
def RelS (G : Gho) (v : Value) (a : AV) : Prop :=
  match a with
  | .when c a => (c = true → RelS0 G v a) ∧ (c = false → v = undef)
  | a => RelS0 G v a

structure Gho.le (G G' : Gho) : Prop where
  σ : G.σ.le G'.σ
  ρ : ∀ s v x, G.ρ s v = some x → G'.ρ s v = some x
  φ : ∀ k x, G.φ k = some x → G'.φ k = some x
  B : ∀ id g, 1000000 ≤ id → G'.B id = some g → G.B id = some g
theorem TagOk.mono {G G' : Gho} (h : G.le G') {v : Value} {a : AV} (ht : TagOk G v a) : TagOk G' v a := by
  unfold TagOk at ht ⊢
  split at ht
  · rcases ht with ht | ⟨g, cap, h1, h2⟩
    · exact .inl ht
    · exact .inr ⟨g, cap, h1, h.ρ _ _ _ h2⟩
  · obtain ⟨h0, h00, g, h1, h2⟩ := ht
    exact ⟨h0, h00, g, h1, fun g' hg => h2 g' (h.B _ _ h0 hg)⟩
  · obtain ⟨g, cap, h1, h2⟩ := ht
    exact ⟨g, cap, h.φ _ _ h1, h2⟩
  · trivial
theorem TagsOk.mono {G G' : Gho} (h : G.le G') {vs : List Value} {cs : List AV} (ht : TagsOk G vs cs) : TagsOk G' vs cs :=
  fun j v a hv ha => (ht j v a hv ha).mono h
theorem RelS0.mono {G G' : Gho} (h : G.le G') {v : Value} {a : AV} (hB : ∀ id off g, a = .ptr id off → G.B id = some g → G'.B id = some g) (hr : RelS0 G v a) : RelS0 G' v a := by
  cases a <;> simp only [RelS0] at hr ⊢ <;> first
    | exact ⟨hr.1.mono h.σ, hr.2.mono h⟩
    | exact RelR.mono h.σ hr
    | (obtain ⟨vs, rfl, h1, h2⟩ := hr; exact ⟨vs, rfl, h1.mono h.σ, h2.mono h⟩)
    | (obtain ⟨h0, g, h1, h2⟩ := hr; exact ⟨h0, g, h1, fun g' hg => h2 g' (h.B _ _ h0 hg)⟩)
    | (obtain ⟨g, h1, h2⟩ := hr; exact ⟨g, hB _ _ _ rfl h1, h2⟩)
theorem RelS.mono {G G' : Gho} (h : G.le G') {v : Value} {a : AV} (hB : ∀ id off g, (a = .ptr id off ∨ ∃ c, a = .when c (.ptr id off)) → G.B id = some g → G'.B id = some g) (hr : RelS G v a) : RelS G' v a := by
  cases a <;> first
    | exact RelS0.mono h (fun id off g e hg => hB id off g (.inl e) hg) hr
    | exact ⟨fun hc => RelS0.mono h (fun id off g e hg => hB id off g (.inr ⟨_, by rw [e]⟩) hg) (hr.1 hc), hr.2⟩

theorem RelS0.mono2 {G G' : Gho} (h : G.le G') {v : Value} {a : AV} (hB : ∀ id g, id < 1000000 → G.B id = some g → G'.B id = some g) (hr : RelS0 G v a) : RelS0 G' v a := by
  cases a with
  | ptr id off => obtain ⟨g, h1, h2, h3⟩ := hr; exact ⟨g, hB _ _ h3 h1, h2, h3⟩
  | _ => exact hr.mono h (fun id off g e => by cases e)
theorem RelS.mono2 {G G' : Gho} (h : G.le G') {v : Value} {a : AV} (hB : ∀ id g, id < 1000000 → G.B id = some g → G'.B id = some g) (hr : RelS G v a) : RelS G' v a := by
  cases a <;> simp only [RelS] at hr ⊢ <;> first
    | exact RelS0.mono2 h hB hr
    | exact ⟨fun hc => RelS0.mono2 h hB (hr.1 hc), hr.2⟩

/-- block g holds one variable, the call's own -/
def BoxAt (E : Env) (G : Gho) (w : World) (g : Nat) (cs : List AV) (fz : Bool) : Prop :=
  E.w0.heap.size ≤ g ∧ ∃ t vs, w.heap[g]? = some (.cells vs t (0, 0)) ∧ RelL G.σ vs.toList (cs.map AV.unown) ∧ TagsOk G vs.toList cs ∧
    (if fz then ∀ (j : Nat) v, vs[j]? = some v → G.σ g j = some v else ∀ j, G.σ g j = none)
/-- block g holds a row of n elements, with or without spare room, the call's own -/
def RowAt (E : Env) (G : Gho) (w : World) (r : RowI) : Prop :=
  E.w0.heap.size ≤ r.g ∧ ∃ e cur, w.heap[r.g]? = some (.cells cur e (0, 0)) ∧ r.n ≤ r.cap ∧ cur.size = r.cap * r.esz ∧ ∀ j, r.n * r.esz ≤ j → G.σ r.g j = none

/-- a block holds a row that a call has made anew -/
def FRowAt (E : Env) (G : Gho) (w : World) (x : FRow) : Prop := E.w0.heap.size ≤ x.g ∧ FRowW G.σ w x.g x.cap x.esz x.rows
theorem FRowW.on {σ σ' : Sg} {w w' : World} {g cap esz : Nat} {rows : List (List AV)} (h : FRowW σ w g cap esz rows) (hle : σ.le σ') (hw : w'.heap[g]? = w.heap[g]?) (hn : ∀ j, σ' g j = none) : FRowW σ' w' g cap esz rows := by
  obtain ⟨e, cur, h1, h2, h3, h4, h5, h6, _⟩ := h
  exact ⟨e, cur, by rw [hw]; exact h1, h2, h3, h4, h5.mono hle, h6, hn⟩
theorem FRowW.free {σ : Sg} {w : World} {g cap esz : Nat} {rows : List (List AV)} (h : FRowW σ w g cap esz rows) : ∀ j, σ g j = none := by
  obtain ⟨e, cur, h1, h2, h3, h4, h5, h6, h7⟩ := h
  exact h7
theorem FRowW.lt {σ : Sg} {w : World} {g cap esz : Nat} {rows : List (List AV)} (h : FRowW σ w g cap esz rows) : g < w.heap.size := by
  obtain ⟨e, cur, h1, _⟩ := h
  exact (Array.getElem?_eq_some_iff.1 h1).1
structure Conc (E : Env) (G : Gho) (fr : Fr) (st : St) (a : Act) (w : World) : Prop where
  defers : a.defers = []
  size : a.tmps.size = E.n
  slots : ∀ s x, fr s = some x → RelS G (a.tmps.getD s undef) x
  hold : Holds G.σ w
  ext : Ext E.σ0 G.σ E.w0.heap.size
  below : Below E.w0.heap.size E.w0 w
  box : ∀ id cs fz, st.box id = some (cs, fz) → ∃ g, G.B id = some g ∧ BoxAt E G w g cs fz
  bnone : ∀ id, st.box id = none → G.B id = none
  binj : ∀ id id' g, G.B id = some g → G.B id' = some g → id = id'
  row : ∀ s r, G.ρ s (st.row s) = some r → RowAt E G w r ∧ ∀ id, G.B id ≠ some r.g
  rinj : ∀ s s' r r', G.ρ s (st.row s) = some r → G.ρ s' (st.row s') = some r' → r.g = r'.g → s = s'
  rlt : ∀ s v x, G.ρ s v = some x → v ≤ st.row s
  phi : ∀ k x, G.φ k = some x → FRowAt E G w x ∧ (∀ id, G.B id ≠ some x.g) ∧ ∀ s r, G.ρ s (st.row s) = some r → r.g ≠ x.g
  phinj : ∀ k k' x x', G.φ k = some x → G.φ k' = some x' → x.g = x'.g → k = k'
  pnone : ∀ k, fr k = none → G.φ k = none
  small : E.n ≤ 1000000

section
variable {E : Env} {G G' : Gho} {fr : Fr} {st : St} {a : Act} {w w' : World}
theorem getD_put (a : Act) {d : Nat} (v : Value) (s : Nat) (hd : d < a.tmps.size) : (a.put (some d) v).tmps.getD s undef = if s = d then v else a.tmps.getD s undef := by
  unfold Act.put
  simp only [Array.getD_eq_getD_getElem?, Array.getElem?_setIfInBounds]
  by_cases h : d = s
  · subst h; simp [hd]
  · rw [if_neg h, if_neg (fun e => h e.symm)]
theorem size_put (a : Act) (d : Option Nat) (v : Value) : (a.put d v).tmps.size = a.tmps.size := by cases d <;> simp [Act.put]
theorem defers_put (a : Act) (d : Option Nat) (v : Value) : (a.put d v).defers = a.defers := by cases d <;> rfl
theorem Conc.put (h : Conc E G fr st a w) {d : Nat} (hd : d < E.n) {v : Value} {x : AV} (hx : RelS G v x) : Conc E G (put1 fr d x) st (a.put (some d) v) w :=
  { h with
    defers := by rw [defers_put]; exact h.defers
    size := by rw [size_put]; exact h.size
    slots := fun s y hs => by
      rw [getD_put a v s (by rw [h.size]; exact hd)]
      unfold put1 at hs
      rw [upd_at] at hs
      by_cases hsd : s = d
      · rw [if_pos hsd] at hs ⊢; cases hs; exact hx
      · rw [if_neg hsd] at hs ⊢; exact h.slots s y hs
    pnone := fun k hk => h.pnone k (by
      unfold put1 at hk
      rw [upd_at] at hk
      split at hk
      · cases hk
      · exact hk) }
theorem Conc.putW (h : Conc E G fr st a w) {d : Nat} (hd : d < E.n) {v : Value} {c : Bool} {x : AV} (hx : (c = true → RelS0 G v x) ∧ (c = false → v = undef)) : Conc E G (upd fr d (some (.when c x))) st (a.put (some d) v) w := h.put hd (x := .when c x) hx
theorem lt_of_heap {w : World} {g : Nat} {o : Obj} (h : w.heap[g]? = some o) : g < w.heap.size := (Array.getElem?_eq_some_iff.1 h).1
theorem Conc.lt (h : Conc E G fr st a w) : E.w0.heap.size ≤ w.heap.size := h.below.size
/-- the world goes on: nothing that is there turns, more cells stay -/
theorem Conc.world (h : Conc E G fr st a w) (hb : Below w.heap.size w w') {σ' : Sg} (hx : Ext G.σ σ' w.heap.size) (hh : Holds σ' w') : Conc E { G with σ := σ' } fr st a w' :=
  have hle : G.le { G with σ := σ' } := ⟨hx.1, fun _ _ _ h => h, fun _ _ h => h, fun _ _ _ h => h⟩
  { defers := h.defers
    size := h.size
    slots := fun s x hs => (h.slots s x hs).mono hle fun _ _ _ _ hg => hg
    hold := hh
    ext := h.ext.trans hx h.lt
    below := h.below.trans (hb.mono h.lt)
    box := fun id cs fz hs => by
      obtain ⟨g, h1, h2, t, vs, h3, h4, h5, h6⟩ := h.box id cs fz hs
      have hg := lt_of_heap h3
      refine ⟨g, h1, h2, t, vs, by rw [hb.block g hg]; exact h3, h4.mono hx.1, h5.mono hle, ?_⟩
      cases fz with
      | true => exact fun j v hv => hx.1 _ _ _ (h6 j v hv)
      | false => exact fun j => by rw [show ({ G with σ := σ' } : Gho).σ g j = σ' g j from rfl, hx.2 g j hg]; exact h6 j
    bnone := h.bnone
    binj := h.binj
    row := fun s r hs => by
      obtain ⟨⟨h1, e, cur, h3, h4, h5, h8⟩, h9⟩ := h.row s r hs
      have hg := lt_of_heap h3
      exact ⟨⟨h1, e, cur, by rw [hb.block r.g hg]; exact h3, h4, h5, fun j hj => by rw [show ({ G with σ := σ' } : Gho).σ r.g j = σ' r.g j from rfl, hx.2 r.g j hg]; exact h8 j hj⟩, h9⟩
    rinj := h.rinj
    rlt := h.rlt
    phi := fun k x hk => by
      obtain ⟨⟨h1, h2⟩, h3, h4⟩ := h.phi k x hk
      have hg := h2.lt
      exact ⟨⟨h1, h2.on hx.1 (hb.block _ hg) fun j => by rw [show ({ G with σ := σ' } : Gho).σ x.g j = σ' x.g j from rfl, hx.2 x.g j hg]; exact h2.free j⟩, h3, h4⟩
    phinj := h.phinj
    pnone := h.pnone
    small := h.small }
theorem Conc.same (h : Conc E G fr st a w) (hb : Below w.heap.size w w') : Conc E G fr st a w' :=
  h.world hb (Ext.refl _ _) fun b o v hv => by
    have := h.hold b o v hv
    have hlt := World.block_lt_of_cell? w _ this
    exact (hb.cell (p := ⟨b, o, none⟩) hlt).trans this

theorem RelS.of1 {v : Value} {c : AV} (h : Rel1 G.σ v c) : RelS G v c := by
  have hu := h.unown
  have ht : TagOk G v c := by
    cases c <;> try trivial
    rename_i t esz l
    cases t <;> first | trivial | cases hu
  have h' : Rel1 G.σ v c.unown := by rw [hu]; exact h
  cases c <;> simp only [RelS, RelS0] <;> first
    | exact ⟨h', ht⟩
    | cases h
theorem RelS.mk1 {v : Value} {c : AV} (h : Rel1 G.σ v c.unown) (ht : TagOk G v c) : RelS G v c := by
  cases c <;> simp only [RelS, RelS0] <;> first
    | exact ⟨h, ht⟩
    | cases h
theorem RelL.map_unown {σ : Sg} {vs : List Value} {cs : List AV} (h : RelL σ vs cs) : cs.map AV.unown = cs := by
  apply List.ext_getElem?
  intro j
  rw [List.getElem?_map]
  cases hc : cs[j]? with
  | none => rfl
  | some c =>
    obtain ⟨v, _, hr⟩ := h.at_ hc
    simp [hr.unown]
theorem RelL.tags {σ : Sg} {G : Gho} {vs : List Value} {cs : List AV} (h : RelL σ vs cs) : TagsOk G vs cs := by
  intro j v c hv hc
  have hu := (h.2 j v c hv hc).unown
  cases c <;> try trivial
  rename_i t esz l
  cases t <;> first | trivial | cases hu
theorem const_rel {P : Program} {t : TypeId} {v : Value} {c : AV} (h : constAV P t v = some c) (G : Gho) : RelS G v c := by
  unfold constAV at h
  split at h <;> first
    | (cases h; exact ⟨.int _ _, trivial⟩)
    | (cases h; exact ⟨.bool _, trivial⟩)
    | (cases h; exact ⟨.str _, trivial⟩)
    | (cases h; exact ⟨.raw _ rfl, trivial⟩)
    | (split at h <;> cases h <;> exact ⟨.lst .nil _ [] none 0 0 0 0 (fun _ _ => undef) rfl (Nat.le_refl _) (fun h => absurd h (by simp)) (fun i c h => by simp at h) (fun i j h => by omega) (fun i j c a h => by simp at h) ⟨rfl, rfl, rfl⟩, trivial⟩)
    | cases h
/-- what an operand is -/
theorem Conc.ev (h : Conc E G fr st a w) {P : Program} {t : TypeId} {x : Operand} {y : Opd} (hy : opdOf P t x = some y) {c : AV} (hc : y.ev fr = some c) : RelS G (a.eval x) c := by
  cases x with
  | tmp n => cases hy; exact h.slots n c hc
  | const v =>
    change (constAV P t v).map Opd.k = some y at hy
    cases hk : constAV P t v with
    | none => rw [hk] at hy; cases hy
    | some k =>
      rw [hk] at hy
      cases hy
      cases hc
      exact const_rel hk G
  | func f =>
    cases hy
    cases hc
    exact ⟨.fn f [] [] rfl (fun _ => undef) (fun j v h => by simp at h) (fun j a h => by simp at h), trivial⟩
  | global g => cases hy

theorem RelS.int {v : Value} {k : IntKind} {n : Int} (h : RelS G v (.int k n)) : v = .int k n := by have := (h.1 : Rel1 G.σ v (.int k n)); cases this; rfl
theorem RelS.bool {v : Value} {b : Bool} (h : RelS G v (.bool b)) : v = .bool b := by have := (h.1 : Rel1 G.σ v (.bool b)); cases this; rfl
theorem RelS.str {v : Value} {s : ByteArray} (h : RelS G v (.str s)) : v = .string s := by have := (h.1 : Rel1 G.σ v (.str s)); cases this; rfl
theorem RelS.raw {v u : Value} (h : RelS G v (.raw u)) : v = u := by have := (h.1 : Rel1 G.σ v (.raw u)); cases this; rfl
theorem RelS.cells {v : Value} {x : AV} {cs : List AV} (h : RelS G v x) (hc : x.vcells = some cs) : RelL G.σ v.cells.toList (cs.map AV.unown) ∧ TagsOk G v.cells.toList cs := by
  have single : ∀ x : AV, Rel1 G.σ v x.unown ∧ TagOk G v x → RelL G.σ v.cells.toList ([x].map AV.unown) ∧ TagsOk G v.cells.toList [x] := by
    intro x hx
    have h1 := hx.1.one
    have h2 : v.cells = #[v] := by cases v <;> first | rfl | (simp [Value.oneCell'] at h1)
    rw [h2]
    refine ⟨.cons hx.1 .nil, fun j u y hu hy => ?_⟩
    cases j with
    | zero => simp at hu hy; subst hu hy; exact hx.2
    | succ j => simp at hu
  cases x <;> simp only [AV.vcells] at hc <;> first
    | (cases hc; exact single _ h)
    | (cases hc; obtain ⟨vs, rfl, h1, h2⟩ := h; exact ⟨by simpa [Value.cells] using h1, by simpa [Value.cells] using h2⟩)
    | cases hc
theorem TagOk.plain {G : Gho} {v : Value} (a : AV) : TagOk G v a.plain := by cases a <;> trivial
/-- an argument -/
theorem RelS.arg {v : Value} {x y : AV} (h : RelS G v x) (hy : x.arg = some y) : RelP G.σ v y := by
  cases x <;> simp only [AV.arg] at hy <;> first
    | (cases hy; have := h.1.plain; rw [plain_unown] at this; exact this)
    | (cases hy; obtain ⟨vs, rfl, h1, h2⟩ := h; refine ⟨vs, rfl, ?_⟩; have := h1.plain; rw [List.map_map] at this; have e : (AV.plain ∘ AV.unown) = AV.plain := funext plain_unown; rw [e] at this; exact this)
    | cases hy
end
end Go.Proofs.YtpcddcfpbohogaaDoor
