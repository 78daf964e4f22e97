/-
  Abstract values: what a value in memory is as a tree of plain data, and the relation between both over a store of cells that stay as they are.
-/
import Derived.Test.YtpcddcfpbohogaaDoorLaws
import Derived.Test.YtpcddcfpbohogaaDoorGl
namespace Go.Proofs.YtpcddcfpbohogaaDoor
set_option linter.unusedSimpArgs false
set_option linter.unusedVariables false
open Go.RowKit

/-- what is known of a slice besides its elements: nil; no spare room; a row of the call's own, by slot and version; nothing -/
inductive Tag where
  | nil
  | full
  | own (s v : Nat)
  | any

inductive AV where
  | int (k : IntKind) (n : Int)
  | bool (b : Bool)
  | str (s : ByteArray)
  | lst (t : Tag) (esz : Nat) (l : List (List AV))
  | ro (cs : List AV)
  | fn (f : FuncId) (cap : List AV)
  | raw (v : Value)
  | agg (cs : List AV)
  | tup (l : List AV)
  | ptr (id off : Nat)
  | when (c : Bool) (a : AV)
  /-- some one cell -/
  | top
  /-- a slice whose elements lie in a row of the call's own that may be written (variable id) -/
  | sli (id esz n cap : Nat)
  /-- the address, from cell k on, of element i of such a row; the element's cells -/
  | pel (id esz i k : Nat) (c : List AV)
  /-- a slice that a call has made anew: nobody else has its row -/
  | frs (key esz : Nat) (rows : List (List AV))
instance : Inhabited AV := ⟨.bool false⟩

/-- cells that stay as they are -/
abbrev Sg := Nat → Nat → Option Value
def Sg.le (σ σ' : Sg) : Prop := ∀ b o v, σ b o = some v → σ' b o = some v
theorem Sg.le.refl (σ : Sg) : σ.le σ := fun _ _ _ h => h
theorem Sg.le.trans {a b c : Sg} (h : a.le b) (k : b.le c) : a.le c := fun x o v hv => k x o v (h x o v hv)

def plainTag (t : Tag) (A : Option Addr) (n cap : Nat) : Prop :=
  match t with
  | .nil => A = none ∧ n = 0 ∧ cap = 0
  | .full => cap = n
  | .own _ _ => False
  | .any => True

/-- the one cell v reads as a -/
inductive Rel1 (σ : Sg) : Value → AV → Prop where
  | int (k : IntKind) (n : Int) : Rel1 σ (.int k n) (.int k n)
  | bool (b : Bool) : Rel1 σ (.bool b) (.bool b)
  | str (s : ByteArray) : Rel1 σ (.string s) (.str s)
  | raw (v : Value) (h : v.oneCell' = true) : Rel1 σ v (.raw v)
  | lst (t : Tag) (esz : Nat) (l : List (List AV)) (A : Option Addr) (n cap b o : Nat) (f : Nat → Nat → Value) (hn : n = l.length) (hlen : n ≤ cap) (hA : 0 < n → A = some ⟨b, o, none⟩)
      (hsz : ∀ (i : Nat) (c : List AV), l[i]? = some c → c.length = esz) (hσ : ∀ i j, i < n → j < esz → σ b (o + i * esz + j) = some (f i j))
      (hr : ∀ (i j : Nat) (c : List AV) (a : AV), l[i]? = some c → c[j]? = some a → Rel1 σ (f i j) a) (ht : plainTag t A n cap) : Rel1 σ (.slice A n cap) (.lst t esz l)
  | ro (cs : List AV) (b o : Nat) (f : Nat → Value) (hσ : ∀ j, j < cs.length → σ b (o + j) = some (f j)) (hr : ∀ (j : Nat) (a : AV), cs[j]? = some a → Rel1 σ (f j) a) :
      Rel1 σ (.pointer (some ⟨b, o, none⟩)) (.ro cs)
  | fn (f : FuncId) (cap : List AV) (vs : List Value) (hl : vs.length = cap.length) (g : Nat → Value) (hg : ∀ (j : Nat) (v : Value), vs[j]? = some v → v = g j) (hr : ∀ (j : Nat) (a : AV), cap[j]? = some a → Rel1 σ (g j) a) :
      Rel1 σ (.func (.func f) #[] vs.toArray) (.fn f cap)
  | top (v : Value) (h : v.oneCell' = true) : Rel1 σ v .top

theorem Rel1.mono {σ σ' : Sg} (hle : σ.le σ') {v : Value} {a : AV} (h : Rel1 σ v a) : Rel1 σ' v a := by
  induction h with
  | int k n => exact .int k n
  | bool b => exact .bool b
  | str s => exact .str s
  | raw v h => exact .raw v h
  | lst t esz l A n cap b o f hn hlen hA hsz hσ hr ht ih => exact .lst t esz l A n cap b o f hn hlen hA hsz (fun i j hi hj => hle _ _ _ (hσ i j hi hj)) ih ht
  | ro cs b o f hσ hr ih => exact .ro cs b o f (fun j hj => hle _ _ _ (hσ j hj)) ih
  | fn f cap vs hl g hg hr ih => exact .fn f cap vs hl g hg ih
  | top v h => exact .top v h

theorem Rel1.one {σ : Sg} {v : Value} {a : AV} (h : Rel1 σ v a) : v.oneCell' = true := by
  cases h <;> first | rfl | assumption

/-- two lists, one by one -/
def RelL (σ : Sg) (vs : List Value) (cs : List AV) : Prop := vs.length = cs.length ∧ ∀ (j : Nat) v a, vs[j]? = some v → cs[j]? = some a → Rel1 σ v a
theorem RelL.nil {σ : Sg} : RelL σ [] [] := ⟨rfl, fun j v a h => by simp at h⟩
theorem RelL.cons {σ : Sg} {v : Value} {a : AV} {vs : List Value} {cs : List AV} (h : Rel1 σ v a) (hs : RelL σ vs cs) : RelL σ (v :: vs) (a :: cs) := by
  refine ⟨by simp [hs.1], fun j u x hu hx => ?_⟩
  cases j with
  | zero => simp at hu hx; subst hu hx; exact h
  | succ j => exact hs.2 j u x (by simpa using hu) (by simpa using hx)
theorem RelL.head {σ : Sg} {v : Value} {a : AV} {vs : List Value} {cs : List AV} (h : RelL σ (v :: vs) (a :: cs)) : Rel1 σ v a := h.2 0 v a rfl rfl
theorem RelL.tail {σ : Sg} {v : Value} {a : AV} {vs : List Value} {cs : List AV} (h : RelL σ (v :: vs) (a :: cs)) : RelL σ vs cs :=
  ⟨by simpa using h.1, fun j u x hu hx => h.2 (j + 1) u x (by simpa using hu) (by simpa using hx)⟩
theorem RelL.mono {σ σ' : Sg} (hle : σ.le σ') {vs : List Value} {cs : List AV} (h : RelL σ vs cs) : RelL σ' vs cs := ⟨h.1, fun j v a hv ha => (h.2 j v a hv ha).mono hle⟩
theorem RelL.append {σ : Sg} {vs vs' : List Value} {cs cs' : List AV} (h : RelL σ vs cs) (h' : RelL σ vs' cs') : RelL σ (vs ++ vs') (cs ++ cs') := by
  refine ⟨by simp [h.1, h'.1], fun j v a hv ha => ?_⟩
  by_cases hj : j < vs.length
  · rw [List.getElem?_append_left hj] at hv
    rw [List.getElem?_append_left (by rw [← h.1]; exact hj)] at ha
    exact h.2 j v a hv ha
  · rw [List.getElem?_append_right (by omega)] at hv
    rw [List.getElem?_append_right (by rw [← h.1]; omega), ← h.1] at ha
    exact h'.2 _ v a hv ha
theorem RelL.one {σ : Sg} {vs : List Value} {cs : List AV} (h : RelL σ vs cs) : ∀ v ∈ vs, v.oneCell' = true := by
  intro v hv
  obtain ⟨j, hj⟩ := List.getElem?_of_mem hv
  have hl := (List.getElem?_eq_some_iff.1 hj).1
  exact (h.2 j v _ hj (List.getElem?_eq_getElem (by rw [← h.1]; exact hl))).one
theorem RelL.at_ {σ : Sg} {vs : List Value} {cs : List AV} (h : RelL σ vs cs) {j : Nat} {a : AV} (ha : cs[j]? = some a) : ∃ v, vs[j]? = some v ∧ Rel1 σ v a := by
  have hl := (List.getElem?_eq_some_iff.1 ha).1
  have : vs[j]? = some (vs[j]'(by rw [h.1]; exact hl)) := List.getElem?_eq_getElem _
  exact ⟨_, this, h.2 j _ a this ha⟩
theorem RelL.drop {σ : Sg} {vs : List Value} {cs : List AV} (h : RelL σ vs cs) (k : Nat) : RelL σ (vs.drop k) (cs.drop k) :=
  ⟨by simp [h.1], fun j v a hv ha => h.2 (k + j) v a (by simpa using hv) (by simpa using ha)⟩
theorem RelL.take {σ : Sg} {vs : List Value} {cs : List AV} (h : RelL σ vs cs) (k : Nat) : RelL σ (vs.take k) (cs.take k) := by
  refine ⟨by simp [h.1], fun j v a hv ha => ?_⟩
  rw [List.getElem?_take] at hv ha
  split at hv
  · rw [if_pos (by assumption)] at ha; exact h.2 j v a hv ha
  · cases hv

/-- the tag of a row of the call's own taken off -/
def AV.unown : AV → AV
  | .lst (.own _ _) esz l => .lst .any esz l
  | .sli _ _ _ _ => .top
  | .frs _ _ _ => .top
  | a => a
/-- the tag taken off -/
def AV.plain : AV → AV
  | .lst _ esz l => .lst .any esz l
  | .sli _ _ _ _ => .top
  | .frs _ _ _ => .top
  | a => a
theorem Rel1.plain {σ : Sg} {v : Value} {a : AV} (h : Rel1 σ v a) : Rel1 σ v a.plain := by
  cases h with
  | lst t esz l A n cap b o f hn hlen hA hsz hσ hr ht => exact .lst .any esz l A n cap b o f hn hlen hA hsz hσ hr trivial
  | int k n => exact .int k n
  | bool b => exact .bool b
  | str s => exact .str s
  | raw v h => exact .raw v h
  | ro cs b o f hσ hr => exact .ro cs b o f hσ hr
  | fn f cap vs hl g hg hr => exact .fn f cap vs hl g hg hr
  | top v h => exact .top v h
theorem plain_unown (a : AV) : a.unown.plain = a.plain := by
  cases a <;> try rfl
  rename_i t esz l
  cases t <;> rfl
theorem Rel1.unown {σ : Sg} {v : Value} {a : AV} (h : Rel1 σ v a) : a.unown = a := by
  cases h <;> try rfl
  rename_i t esz l A n cap b o f hn hlen hA hsz hσ hr ht
  cases t <;> first | rfl | exact ht.elim
theorem RelL.plain {σ : Sg} {vs : List Value} {cs : List AV} (h : RelL σ vs cs) : RelL σ vs (cs.map AV.plain) := by
  refine ⟨by simp [h.1], fun j v a hv ha => ?_⟩
  rw [List.getElem?_map] at ha
  cases hc : cs[j]? with
  | none => rw [hc] at ha; cases ha
  | some c =>
    rw [hc] at ha
    cases ha
    exact (h.2 j v c hv hc).plain

/-- a value that goes from call to call: no tags, no addresses of variables -/
def RelP (σ : Sg) (v : Value) (a : AV) : Prop :=
  match a with
  | .agg cs => ∃ vs : List Value, v = .agg vs.toArray ∧ RelL σ vs cs
  | a => Rel1 σ v a
def AV.isTup : AV → Bool
  | .tup _ => true
  | _ => false
/-- a result -/
def RelR (σ : Sg) (v : Value) (a : AV) : Prop :=
  match a with
  | .tup l => ∃ vs : List Value, v = .tuple vs.toArray ∧ vs.length = l.length ∧ ∀ (j : Nat) u x, vs[j]? = some u → l[j]? = some x → RelP σ u x
  | a => RelP σ v a
theorem RelP.mono {σ σ' : Sg} (hle : σ.le σ') {v : Value} {a : AV} (h : RelP σ v a) : RelP σ' v a := by
  cases a <;> simp only [RelP] at h ⊢ <;> first
    | exact h.mono hle
    | (obtain ⟨vs, rfl, h⟩ := h; exact ⟨vs, rfl, h.mono hle⟩)
theorem RelR.mono {σ σ' : Sg} (hle : σ.le σ') {v : Value} {a : AV} (h : RelR σ v a) : RelR σ' v a := by
  cases a <;> simp only [RelR] at h ⊢ <;> first
    | exact RelP.mono hle h
    | (obtain ⟨vs, rfl, hl, h⟩ := h; exact ⟨vs, rfl, hl, fun j u x hu hx => (h j u x hu hx).mono hle⟩)

/-- the cells of an abstract value -/
def AV.cells : AV → List AV
  | .agg cs => cs
  | a => [a]
theorem RelP.cells {σ : Sg} {v : Value} {a : AV} (h : RelP σ v a) : RelL σ v.cells.toList a.cells := by
  cases a <;> simp only [RelP] at h <;> first
    | (obtain ⟨vs, rfl, h⟩ := h; simpa [Value.cells, AV.cells] using h)
    | (have h1 := h.one
       have h2 : v.cells = #[v] := by cases v <;> first | rfl | (simp [Value.oneCell'] at h1)
       rw [h2]
       exact .cons h .nil)
def RelPs (σ : Sg) (vs : List Value) (as : List AV) : Prop := vs.length = as.length ∧ ∀ (j : Nat) v a, vs[j]? = some v → as[j]? = some a → RelP σ v a
theorem RelPs.mono {σ σ' : Sg} (hle : σ.le σ') {vs : List Value} {as : List AV} (h : RelPs σ vs as) : RelPs σ' vs as := ⟨h.1, fun j v a hv ha => (h.2 j v a hv ha).mono hle⟩

def Holds (σ : Sg) (w : World) : Prop := ∀ b o v, σ b o = some v → w.cell? ⟨b, o, none⟩ = some v
/-- the store has grown by cells of new blocks alone -/
def Ext (σ σ' : Sg) (n : Nat) : Prop := σ.le σ' ∧ ∀ b o, b < n → σ' b o = σ b o
theorem Ext.refl (σ : Sg) (n : Nat) : Ext σ σ n := ⟨.refl σ, fun _ _ _ => rfl⟩
theorem Ext.trans {a b c : Sg} {n m : Nat} (h : Ext a b n) (k : Ext b c m) (hm : n ≤ m) : Ext a c n := ⟨h.1.trans k.1, fun x o hx => (k.2 x o (Nat.lt_of_lt_of_le hx hm)).trans (h.2 x o hx)⟩

/-- the function is there, and has a body -/
def callable (P : Program) (f : FuncId) : Bool :=
  match P.funcs[f]? with
  | some fn => fn.body.isSome && fn.name != "runtime.NumGoroutine"
  | none => false
/-- A CONTRACT: of arguments that read as 'args' the function answers what reads as 'r'; nothing that was there has turned. -/
structure AC (P : Program) (f : FuncId) (args : List AV) (r : AV) : Prop where
  cb : callable P f = true
  run : ∀ (σ : Sg) (w : World) (vs : List Value), Holds σ w → RelPs σ vs args → GW w →
    Calls P f vs.toArray w fun e w' => ∃ σ' v, e = .returned v ∧ Ext σ σ' w.heap.size ∧ Holds σ' w' ∧ Below w.heap.size w w' ∧ RelR σ' v r
end Go.Proofs.YtpcddcfpbohogaaDoor
