/-
  The texts that the claim wants, one behind the other: part 3.
-/
import Derived.Test.YtgidajjjpeboeaaGreatDoorS2
import Derived.MapKept
set_option linter.unusedSimpArgs false
set_option linter.unusedVariables false
namespace Go.Proofs.YtgidajjjpeboeaaGreatDoor
open Go.RowKit
inductive Tag where
 | nil
 | full
 | own (s v : Nat)
 | any
inductive AV where
 | int (k : IntKind) (n : Int)
 | bool (b : Bool)
 | str (s : ByteArray)
 | lst (t : Tag) (esz : Nat) (l : List (List AV))
 | ro (cs : List AV)
 | fn (f : FuncId) (cap : List AV)
 | raw (v : Value)
 | agg (cs : List AV)
 | tup (l : List AV)
 | ptr (id off : Nat)
 | when (c : Bool) (a : AV)
 /-- some one cell -/
 | top
 /-- a slice whose elements lie in a row of the call's own that may be written (variable id) -/
 | sli (id esz n cap : Nat)
 /-- the address, from cell k on, of element i of such a row; the element's cells -/
 | pel (id esz i k : Nat) (c : List AV)
 /-- a slice that a call has made anew: nobody else has its row -/
 | frs (key esz : Nat) (rows : List (List AV))
 /-- the address, from cell off on, of a variable that goes by a name -/
 | np (id off : Nat)
instance : Inhabited AV := ⟨.bool false⟩
abbrev Sg := Nat → Nat → Option Value
def Sg.le (σ σ' : Sg) : Prop := ∀ b o v, σ b o = some v → σ' b o = some v
theorem Sg.le.refl (σ : Sg) : σ.le σ := fun _ _ _ h => h
theorem Sg.le.trans {a b c : Sg} (h : a.le b) (k : b.le c) : a.le c := fun x o v hv => k x o v (h x o v hv)
def plainTag (t : Tag) (A : Option Addr) (n cap : Nat) : Prop :=
 match t with
 | .nil => A = none ∧ n = 0 ∧ cap = 0
 | .full => cap = n
 | .own _ _ => False
 | .any => True
inductive Rel1 (σ : Sg) : Value → AV → Prop where
 | int (k : IntKind) (n : Int) : Rel1 σ (.int k n) (.int k n)
 | bool (b : Bool) : Rel1 σ (.bool b) (.bool b)
 | str (s : ByteArray) : Rel1 σ (.string s) (.str s)
 | raw (v : Value) (h : v.oneCell' = true) : Rel1 σ v (.raw v)
 | lst (t : Tag) (esz : Nat) (l : List (List AV)) (A : Option Addr) (n cap b o : Nat) (f : Nat → Nat → Value) (hn : n = l.length) (hlen : n ≤ cap) (hA : 0 < n → A = some ⟨b, o, none⟩)
   (hsz : ∀ (i : Nat) (c : List AV), l[i]? = some c → c.length = esz) (hσ : ∀ i j, i < n → j < esz → σ b (o + i * esz + j) = some (f i j))
   (hr : ∀ (i j : Nat) (c : List AV) (a : AV), l[i]? = some c → c[j]? = some a → Rel1 σ (f i j) a) (ht : plainTag t A n cap) : Rel1 σ (.slice A n cap) (.lst t esz l)
 | ro (cs : List AV) (b o : Nat) (f : Nat → Value) (hσ : ∀ j, j < cs.length → σ b (o + j) = some (f j)) (hr : ∀ (j : Nat) (a : AV), cs[j]? = some a → Rel1 σ (f j) a) :
   Rel1 σ (.pointer (some ⟨b, o, none⟩)) (.ro cs)
 | fn (f : FuncId) (cap : List AV) (vs : List Value) (hl : vs.length = cap.length) (g : Nat → Value) (hg : ∀ (j : Nat) (v : Value), vs[j]? = some v → v = g j) (hr : ∀ (j : Nat) (a : AV), cap[j]? = some a → Rel1 σ (g j) a) :
   Rel1 σ (.func (.func f) #[] vs.toArray) (.fn f cap)
 | top (v : Value) (h : v.oneCell' = true) : Rel1 σ v .top
theorem Rel1.mono {σ σ' : Sg} (hle : σ.le σ') {v : Value} {a : AV} (h : Rel1 σ v a) : Rel1 σ' v a := by
 induction h with
 | int k n => exact .int k n
 | bool b => exact .bool b
 | str s => exact .str s
 | raw v h => exact .raw v h
 | lst t esz l A n cap b o f hn hlen hA hsz hσ hr ht ih => exact .lst t esz l A n cap b o f hn hlen hA hsz (fun i j hi hj => hle _ _ _ (hσ i j hi hj)) ih ht
 | ro cs b o f hσ hr ih => exact .ro cs b o f (fun j hj => hle _ _ _ (hσ j hj)) ih
 | fn f cap vs hl g hg hr ih => exact .fn f cap vs hl g hg ih
 | top v h => exact .top v h
theorem Rel1.one {σ : Sg} {v : Value} {a : AV} (h : Rel1 σ v a) : v.oneCell' = true := by
 cases h <;> first | rfl | assumption
def RelL (σ : Sg) (vs : List Value) (cs : List AV) : Prop := vs.length = cs.length ∧ ∀ (j : Nat) v a, vs[j]? = some v → cs[j]? = some a → Rel1 σ v a
theorem RelL.nil {σ : Sg} : RelL σ [] [] := ⟨rfl, fun j v a h => by simp at h⟩
theorem RelL.cons {σ : Sg} {v : Value} {a : AV} {vs : List Value} {cs : List AV} (h : Rel1 σ v a) (hs : RelL σ vs cs) : RelL σ (v :: vs) (a :: cs) := by
 refine ⟨by simp [hs.1], fun j u x hu hx => ?_⟩
 cases j with
 | zero => simp at hu hx; subst hu hx; exact h
 | succ j => exact hs.2 j u x (by simpa using hu) (by simpa using hx)
theorem RelL.head {σ : Sg} {v : Value} {a : AV} {vs : List Value} {cs : List AV} (h : RelL σ (v :: vs) (a :: cs)) : Rel1 σ v a := h.2 0 v a rfl rfl
theorem RelL.tail {σ : Sg} {v : Value} {a : AV} {vs : List Value} {cs : List AV} (h : RelL σ (v :: vs) (a :: cs)) : RelL σ vs cs :=
 ⟨by simpa using h.1, fun j u x hu hx => h.2 (j + 1) u x (by simpa using hu) (by simpa using hx)⟩
theorem RelL.mono {σ σ' : Sg} (hle : σ.le σ') {vs : List Value} {cs : List AV} (h : RelL σ vs cs) : RelL σ' vs cs := ⟨h.1, fun j v a hv ha => (h.2 j v a hv ha).mono hle⟩
theorem RelL.append {σ : Sg} {vs vs' : List Value} {cs cs' : List AV} (h : RelL σ vs cs) (h' : RelL σ vs' cs') : RelL σ (vs ++ vs') (cs ++ cs') := by
 refine ⟨by simp [h.1, h'.1], fun j v a hv ha => ?_⟩
 by_cases hj : j < vs.length
 ·rw [List.getElem?_append_left hj] at hv
  rw [List.getElem?_append_left (by rw [← h.1]; exact hj)] at ha
  exact h.2 j v a hv ha
 ·rw [List.getElem?_append_right (by omega)] at hv
  rw [List.getElem?_append_right (by rw [← h.1]; omega), ← h.1] at ha
  exact h'.2 _ v a hv ha
theorem RelL.one {σ : Sg} {vs : List Value} {cs : List AV} (h : RelL σ vs cs) : ∀ v ∈ vs, v.oneCell' = true := by
 intro v hv
 obtain ⟨j, hj⟩ := List.getElem?_of_mem hv
 have hl := (List.getElem?_eq_some_iff.1 hj).1
 exact (h.2 j v _ hj (List.getElem?_eq_getElem (by rw [← h.1]; exact hl))).one
theorem RelL.at_ {σ : Sg} {vs : List Value} {cs : List AV} (h : RelL σ vs cs) {j : Nat} {a : AV} (ha : cs[j]? = some a) : ∃ v, vs[j]? = some v ∧ Rel1 σ v a := by
 have hl := (List.getElem?_eq_some_iff.1 ha).1
 have : vs[j]? = some (vs[j]'(by rw [h.1]; exact hl)) := List.getElem?_eq_getElem _
 exact ⟨_, this, h.2 j _ a this ha⟩
theorem RelL.drop {σ : Sg} {vs : List Value} {cs : List AV} (h : RelL σ vs cs) (k : Nat) : RelL σ (vs.drop k) (cs.drop k) :=
 ⟨by simp [h.1], fun j v a hv ha => h.2 (k + j) v a (by simpa using hv) (by simpa using ha)⟩
theorem RelL.take {σ : Sg} {vs : List Value} {cs : List AV} (h : RelL σ vs cs) (k : Nat) : RelL σ (vs.take k) (cs.take k) := by
 refine ⟨by simp [h.1], fun j v a hv ha => ?_⟩
 rw [List.getElem?_take] at hv ha
 split at hv
 ·rw [if_pos (by assumption)] at ha; exact h.2 j v a hv ha
 ·cases hv
def AV.unown : AV → AV
 | .lst (.own _ _) esz l => .lst .any esz l
 | .sli _ _ _ _ => .top
 | .frs _ _ _ => .top
 | .np _ _ => .top
 | a => a
def AV.plain : AV → AV
 | .lst _ esz l => .lst .any esz l
 | .sli _ _ _ _ => .top
 | .frs _ _ _ => .top
 | .np _ _ => .top
 | a => a
theorem Rel1.plain {σ : Sg} {v : Value} {a : AV} (h : Rel1 σ v a) : Rel1 σ v a.plain := by
 cases h with
 | lst t esz l A n cap b o f hn hlen hA hsz hσ hr ht => exact .lst .any esz l A n cap b o f hn hlen hA hsz hσ hr trivial
 | int k n => exact .int k n
 | bool b => exact .bool b
 | str s => exact .str s
 | raw v h => exact .raw v h
 | ro cs b o f hσ hr => exact .ro cs b o f hσ hr
 | fn f cap vs hl g hg hr => exact .fn f cap vs hl g hg hr
 | top v h => exact .top v h
theorem plain_unown (a : AV) : a.unown.plain = a.plain := by
 cases a <;> try rfl
 rename_i t esz l
 cases t <;> rfl
theorem Rel1.unown {σ : Sg} {v : Value} {a : AV} (h : Rel1 σ v a) : a.unown = a := by
 cases h <;> try rfl
 rename_i t esz l A n cap b o f hn hlen hA hsz hσ hr ht
 cases t <;> first | rfl | exact ht.elim
theorem RelL.plain {σ : Sg} {vs : List Value} {cs : List AV} (h : RelL σ vs cs) : RelL σ vs (cs.map AV.plain) := by
 refine ⟨by simp [h.1], fun j v a hv ha => ?_⟩
 rw [List.getElem?_map] at ha
 cases hc : cs[j]? with
 | none => rw [hc] at ha; cases ha
 | some c =>
  rw [hc] at ha
  cases ha
  exact (h.2 j v c hv hc).plain
def RelP (σ : Sg) (v : Value) (a : AV) : Prop :=
 match a with
 | .agg cs => ∃ vs : List Value, v = .agg vs.toArray ∧ RelL σ vs cs
 | a => Rel1 σ v a
def AV.isTup : AV → Bool
 | .tup _ => true
 | _ => false
def RelR (σ : Sg) (v : Value) (a : AV) : Prop :=
 match a with
 | .tup l => ∃ vs : List Value, v = .tuple vs.toArray ∧ vs.length = l.length ∧ ∀ (j : Nat) u x, vs[j]? = some u → l[j]? = some x → RelP σ u x
 | a => RelP σ v a
theorem RelP.mono {σ σ' : Sg} (hle : σ.le σ') {v : Value} {a : AV} (h : RelP σ v a) : RelP σ' v a := by
 cases a <;> simp only [RelP] at h ⊢ <;> first
  | exact h.mono hle
  | (obtain ⟨vs, rfl, h⟩ := h; exact ⟨vs, rfl, h.mono hle⟩)
def RelPs (σ : Sg) (vs : List Value) (as : List AV) : Prop := vs.length = as.length ∧ ∀ (j : Nat) v a, vs[j]? = some v → as[j]? = some a → RelP σ v a
theorem RelPs.mono {σ σ' : Sg} (hle : σ.le σ') {vs : List Value} {as : List AV} (h : RelPs σ vs as) : RelPs σ' vs as := ⟨h.1, fun j v a hv ha => (h.2 j v a hv ha).mono hle⟩
def Holds (σ : Sg) (w : World) : Prop := ∀ b o v, σ b o = some v → w.cell? ⟨b, o, none⟩ = some v
def Ext (σ σ' : Sg) (n : Nat) : Prop := σ.le σ' ∧ ∀ b o, b < n → σ' b o = σ b o
theorem Ext.refl (σ : Sg) (n : Nat) : Ext σ σ n := ⟨.refl σ, fun _ _ _ => rfl⟩
def callable (P : Program) (f : FuncId) : Bool :=
 match P.funcs[f]? with
 | some fn => fn.body.isSome && fn.name != "runtime.NumGoroutine"
 | none => false
structure AC (P : Program) (f : FuncId) (args : List AV) (r : AV) : Prop where
 cb : callable P f = true
 run : ∀ (σ : Sg) (w : World) (vs : List Value), Holds σ w → RelPs σ vs args → GW w →
  Calls P f vs.toArray w fun e w' => ∃ σ' v, e = .returned v ∧ Ext σ σ' w.heap.size ∧ Holds σ' w' ∧ Below w.heap.size w w' ∧ RelR σ' v r
end Go.Proofs.YtgidajjjpeboeaaGreatDoor
/-
 The abstract walk: instructions, what each does to abstract values, and how a function's operations are turned into them.
-/
namespace Go.Proofs.YtgidajjjpeboeaaGreatDoor
open Go.RowKit
inductive Opd where
 | s (n : Nat)
 | k (a : AV)
inductive MO where
 | get (t : TypeId) (ok : Bool)
 | set (t : TypeId)
 | new (t : TypeId)
 | del (t k ty : TypeId)
 | len (t ty : TypeId)
inductive AI where
 | mov (d : Nat) (x : Opd)
 | pick (d : Nat) (c a b : Opd)
 | box (d : Nat) (x : Opd)
 | alloc (d : Nat) (z : List AV)
 | ld (d n : Nat) (agg : Bool) (p : Opd)
 | st (n : Nat) (p x : Opd)
 | off (d k : Nat) (p : Opd)
 /-- bytes as a text -/
 | b2s (d : Nat) (x : Opd)
 /-- the address of an element of an array that is a variable -/
 | offi (d n esz : Nat) (p i : Opd)
 | idx (d esz : Nat) (x i : Opd)
 | bin (d : Nat) (op : BinOp) (bt : Bool) (x y : Opd)
 | un (d : Nat) (op : UnOp) (x : Opd)
 | build (d : Nat) (z : List AV) (ps : List (Nat × Nat × Opd))
 | bsl (d n esz : Nat) (z : List AV) (ps : List (Nat × Nat × Opd))
 | len (d : Nat) (s : Bool) (x : Opd)
 | app (d esz bytes : Nat) (x y : Opd)
 /-- append to a row that nobody else has, and that isn't in the store -/
 | appr (d esz bytes : Nat) (x y : Opd)
 | ext (d i : Nat) (x : Opd)
 | call (d : Option Nat) (f : Opd) (args : List Opd)
 /-- a call that may write into its first argument's row -/
 | callr (d : Option Nat) (f : Opd) (args : List Opd)
 /-- a call whose result may be appended to -/
 | callo (d : Option Nat) (f : Opd) (args : List Opd)
 /-- a call that is handed variables -/
 | calls (d : Option Nat) (f : Opd) (args : List Opd)
 /-- an operation on a map -/
 | mop (o : MO) (d : Option Nat) (args : List Opd)
 /-- an iterator over a map; its next entry (by rules of their own: AK.mrange) -/
 | rng (t : TypeId) (d : Nat) (x : Opd)
 | nxt (d : Nat) (x : Opd)
 | ent (d : Nat) (x : Opd)
 | sub (d : Nat) (s : Bool) (esz : Nat) (x : Opd) (lo hi : Option Opd)
 | bidx (d : Nat) (x i : Opd)
 | mx (d : Nat) (x y : Opd)
 | conv (d : Nat) (k : IntKind) (x : Opd)
 | mkfn (d f : Nat) (cap : List Opd)
 | eqs (d : Nat) (neg : Bool) (t : TypeId) (x y : Opd)
structure GI where
 g : Option (Nat × Bool)
 i : AI
inductive RS where
 | v (a : AV)
 | c (cs : List AV)
 /-- a slice made anew -/
 | f (esz : Nat) (rows : List (List AV))
 /-- a slice made anew, that may be appended to -/
 | o (esz : Nat) (rows : List (List AV))
 /-- the first argument's row is taken over; what comes back is anew -/
 | m (rows rows' : List (List AV))
 /-- the first argument is nil; what comes back is anew -/
 | n (esz : Nat) (rows : List (List AV))
 /-- the first argument's row is read -/
 | b (rows : List (List AV)) (r : AV)
 /-- the variables of these numbers are handed over; what they and new ones are then -/
 | s (ids : List Nat) (S : List (Nat × List AV)) (r : AV)
 /-- several results: a slice made anew, and others -/
 | t (esz : Nat) (rows : List (List AV)) (as : List AV)
structure St where
 box : Nat → Option (List AV × Bool)
 row : Nat → Nat
abbrev Fr := Nat → Option AV
def isMp (id : Nat) : Bool := Nat.ble 900000 (id % 1000000)
def St.cbox (st : St) (id : Nat) : Option (List AV × Bool) := match isMp id with
 | true => none
 | false => st.box id
theorem cbox_some {st : St} {id : Nat} {x : List AV × Bool} (h : st.cbox id = some x) : st.box id = some x ∧ isMp id = false := by
 unfold St.cbox at h
 cases hm : isMp id with
 | true => rw [hm] at h; cases h
 | false => rw [hm] at h; exact ⟨h, rfl⟩
theorem cbox_of {st : St} {id : Nat} {x : List AV × Bool} (hm : isMp id = false) (h : st.box id = some x) : st.cbox id = some x := by
 unfold St.cbox
 rw [hm]
 exact h
theorem isMp_lt {id : Nat} (h : id < 900000) : isMp id = false := by
 unfold isMp
 rw [Nat.mod_eq_of_lt (by omega)]
 cases hb : Nat.ble 900000 id with
 | false => rfl
 | true => have := Nat.le_of_ble_eq_true hb; omega
def upd {α : Type} (f : Nat → α) (i : Nat) (v : α) : Nat → α := fun j => bif Nat.beq j i then v else f j
theorem upd_same {α : Type} (f : Nat → α) (i : Nat) (v : α) : upd f i v i = v := by simp [upd]
theorem nbeq_ne {i j : Nat} (h : j ≠ i) : Nat.beq j i = false := by
 cases hb : Nat.beq j i with
 | false => rfl
 | true => exact absurd (Nat.eq_of_beq_eq_true hb) h
theorem upd_ne {α : Type} (f : Nat → α) {i j : Nat} (v : α) (h : j ≠ i) : upd f i v j = f j := by simp [upd, nbeq_ne h]
theorem upd_at {α : Type} (f : Nat → α) (i j : Nat) (v : α) : upd f i v j = if j = i then v else f j := by
 by_cases h : j = i
 ·subst h; simp [upd]
 ·rw [upd_ne f v h, if_neg h]
def Opd.ev (fr : Fr) : Opd → Option AV
 | .s n => fr n
 | .k a => some a
def evs (fr : Fr) : List Opd → Option (List AV)
 | [] => some []
 | x :: l => match x.ev fr, evs fr l with
  | some a, some as => some (a :: as)
  | _, _ => none
def AV.vcells : AV → Option (List AV)
 | .agg cs => some cs
 | .tup _ => none
 | .ptr _ _ => none
 | .when _ _ => none
 | .pel _ _ _ _ _ => none
 | a => some [a]
def AV.arg : AV → Option AV
 | .agg cs => some (.agg (cs.map AV.plain))
 | .tup _ => none
 | .ptr _ _ => none
 | .when _ _ => none
 | .pel _ _ _ _ _ => none
 | .sli _ _ _ _ => none
 | .frs _ _ _ => none
 | .np _ _ => none
 | a => some a.plain
def argsOf : List AV → Option (List AV)
 | [] => some []
 | a :: l => match a.arg, argsOf l with
  | some x, some xs => some (x :: xs)
  | _, _ => none
def takeN : Nat → List AV → Option (List AV)
 | 0, _ => some []
 | n + 1, a :: l => match takeN n l with
  | some r => some (a :: r)
  | none => none
 | _ + 1, [] => none
def dropN : Nat → List AV → Option (List AV)
 | 0, l => some l
 | n + 1, _ :: l => dropN n l
 | _ + 1, [] => none
def splice : Nat → List AV → List AV → Option (List AV)
 | _, [], l => some l
 | 0, x :: xs, _ :: l => match splice 0 xs l with
  | some r => some (x :: r)
  | none => none
 | n + 1, x :: xs, a :: l => match splice n (x :: xs) l with
  | some r => some (a :: r)
  | none => none
 | _, _ :: _, [] => none
def afill (fr : Fr) : List AV → List (Nat × Nat × Opd) → Option (List AV)
 | cells, [] => some cells
 | cells, (off, size, x) :: ps => match x.ev fr with
  | some a => match a.vcells with
   | some cs => match Nat.beq cs.length size with
    | true => match splice off cs cells with
     | some cells' => afill fr cells' ps
     | none => none
    | false => none
   | none => none
  | none => none
def chunk (esz : Nat) : Nat → List AV → Option (List (List AV))
 | 0, [] => some []
 | 0, _ :: _ => none
 | n + 1, l => match takeN esz l, dropN esz l with
  | some c, some l' => match chunk esz n l' with
   | some r => some (c.map AV.plain :: r)
   | none => none
  | _, _ => none
def getN : Nat → List AV → Option AV
 | 0, a :: _ => some a
 | n + 1, _ :: l => getN n l
 | _, [] => none
def intBin (op : BinOp) (k : IntKind) (a b : Int) : Option (AV × Prop) :=
 match op with
 | .add => some (.int k (k.wrap (a + b)), True)
 | .sub => some (.int k (k.wrap (a - b)), True)
 | .mul => some (.int k (k.wrap (a * b)), True)
 | .quo => some (.int k (k.wrap (a.tdiv b)), b ≠ 0)
 | .rem => some (.int k (a.tmod b), b ≠ 0)
 | .and => some (.int k (bits .and k a b), True)
 | .or => some (.int k (bits .or k a b), True)
 | .xor => some (.int k (bits .xor k a b), True)
 | .eql => some (.bool (decide (a = b)), True)
 | .neq => some (.bool (!decide (a = b)), True)
 | .lss => some (.bool (decide (a < b)), True)
 | .leq => some (.bool (decide (a ≤ b)), True)
 | .gtr => some (.bool (decide (a > b)), True)
 | .geq => some (.bool (decide (a ≥ b)), True)
 | _ => none
def strBin (op : BinOp) (a b : ByteArray) : Option (AV × Prop) :=
 match op with
 | .add => some (.str (a ++ b), ((a.size + b.size : Nat) : Int) ≤ 9223372036854775807)
 | .eql => some (.bool (decide (a = b)), True)
 | .neq => some (.bool (!decide (a = b)), True)
 | .lss => some (.bool (Op.bytesLess a.toList b.toList), True)
 | .leq => some (.bool (!Op.bytesLess b.toList a.toList), True)
 | .gtr => some (.bool (Op.bytesLess b.toList a.toList), True)
 | .geq => some (.bool (!Op.bytesLess a.toList b.toList), True)
 | _ => none
def boolBin (op : BinOp) (a b : Bool) : Option (AV × Prop) :=
 match op with
 | .eql => some (.bool (a == b), True)
 | .neq => some (.bool (a != b), True)
 | _ => none
def kindEq (k k' : IntKind) : Bool := Nat.beq k.ctorIdx k'.ctorIdx
def binAV (op : BinOp) (bt : Bool) : AV → AV → Option (AV × Prop)
 | .int k a, .int k' b => match op with
  | .shl => some (.int k (k.wrap (a * 2 ^ (min b.toNat k.bits))), 0 ≤ b)
  | .shr => some (.int k (a.fdiv (2 ^ (min b.toNat k.bits))), 0 ≤ b)
  | op => match kindEq k k' with
   | true => intBin op k a b
   | false => none
 | .str a, .str b => strBin op a b
 | .bool a, .bool b => match bt with
  | true => boolBin op a b
  | false => none
 | _, _ => none
def unAV (op : UnOp) : AV → Option AV
 | .bool b => match op with
  | .not => some (.bool (!b))
  | _ => none
 | .int k a => match op with
  | .neg => some (.int k (k.wrap (0 - a)))
  | _ => none
 | _ => none
def OwnTag (st : St) (t : Tag) : Prop :=
 match t with
 | .own s v => st.row s = v
 | .any => False
 | _ => True
def appTag (st : St) (d : Nat) (t : Tag) : Tag :=
 match t with
 | .own s v => .own s (v + 1)
 | _ => .own d (st.row d + 1)
def appRow (st : St) (d : Nat) (t : Tag) : Nat → Nat :=
 match t with
 | .own s v => upd st.row s (v + 1)
 | _ => upd st.row d (st.row d + 1)
def fullOk (t : Tag) (l m : List (List AV)) : Prop :=
 match t with
 | .full => l.length = 0 ∨ 0 < m.length
 | _ => True
def lstEsz (t : Tag) (esz' esz : Nat) : Prop :=
 match t with
 | .nil => True
 | _ => esz' = esz
def freeze (st : St) (fr : Fr) : List Opd → Option (List AV × St)
 | [] => some ([], st)
 | x :: l => match x.ev fr with
  | some (.ptr id off) => match st.cbox id with
   | some (cs, _) => match dropN off cs with
    | some cs' => match freeze { st with box := upd st.box id (some (cs, true)) } fr l with
     | some (r, st') => some (.ro (cs'.map AV.plain) :: r, st')
     | none => none
    | none => none
   | none => none
  | some (.agg _) => none
  | some (.tup _) => none
  | some (.when _ _) => none
  | some (.pel _ _ _ _ _) => none
  | some (.sli _ _ _ _) => none
  | some (.frs _ _ _) => none
  | some a => match freeze st fr l with
   | some (r, st') => some (a.plain :: r, st')
   | none => none
  | none => none
def intOfOpt (fr : Fr) (dflt : Int) : Option Opd → Option Int
 | none => some dflt
 | some x => match x.ev fr with
  | some (.int _ n) => some n
  | _ => none
def put1 (fr : Fr) (d : Nat) (a : AV) : Fr := upd fr d (some a)
def pcell : AV → Option Value
 | .int k n => some (.int k n)
 | .bool b => some (.bool b)
 | .str s => some (.string s)
 | _ => none
def pcells : List AV → Option (List Value)
 | [] => some []
 | a :: l => match pcell a, pcells l with
  | some v, some vs => some (v :: vs)
  | _, _ => none
def eqCells : List AV → List AV → Bool
 | [], [] => true
 | .str a :: l, .str b :: m => decide (a = b) && eqCells l m
 | .int _ a :: l, .int _ b :: m => decide (a = b) && eqCells l m
 | .bool a :: l, .bool b :: m => (a == b) && eqCells l m
 | _, _ => false
def eqOp : Bool → BinOp
 | true => .neq
 | false => .eql
def EqRun (P : Program) (neg : Bool) (t : TypeId) (us vs : List Value) (r : Bool) : Prop :=
 ∀ (w : World) (x y : Operand), (eqGuard (eqOp neg) t x y (.agg us.toArray) (.agg vs.toArray)).run P w = .ok () w ∧ (binOp (eqOp neg) t (.agg us.toArray) (.agg vs.toArray)).run P w = .ok (.bool (match neg with | true => !r | false => r)) w
def bytesOfRows : List (List AV) → Option (List UInt8 × Prop)
 | [] => some ([], True)
 | [.int .u8 n] :: r => match bytesOfRows r with
  | some (l, p) => some (n.toNat.toUInt8 :: l, (0 ≤ n ∧ n < 256) ∧ p)
  | none => none
 | _ => none
theorem bytesOfRows_spec : ∀ {rows : List (List AV)} {l : List UInt8} {p : Prop}, bytesOfRows rows = some (l, p) → p → l.length = rows.length ∧ ∀ (j : Nat) (hj : j < l.length), rows[j]? = some [.int .u8 (l[j].toNat : Int)]
 | [], l, p, h, _ => by
  cases h
  exact ⟨rfl, fun j hj => by simp at hj⟩
 | c :: r, l, p, h, hp => by
  unfold bytesOfRows at h
  split at h
  ·rename_i he; cases he
  ·rename_i n r' he
   cases he
   split at h
   ·rename_i l' p' hr
    cases h
    obtain ⟨e1, e2⟩ := bytesOfRows_spec hr hp.2
    refine ⟨by simp [e1], fun j hj => ?_⟩
    cases j with
    | zero =>
     have hn : ((n.toNat.toUInt8).toNat : Int) = n := by
      rw [Nat.toUInt8_eq, UInt8.toNat_ofNat']
      have := hp.1
      omega
     simp only [List.getElem?_cons_zero, List.getElem_cons_zero]
     rw [hn]
    | succ j => simpa using e2 j (by simpa using hj)
   ·cases h
  ·cases h
def nilQ : Value → Option Bool
 | .nilIface => some true
 | .iface _ _ => some false
 | .pointer none => some true
 | .pointer (some _) => some false
 | _ => none
def isC : Operand → Bool
 | .const _ => true
 | _ => false
def Opd.isK : Opd → Bool
 | .k _ => true
 | .s _ => false
def NilRun (P : Program) (neg : Bool) (t : TypeId) (u v : Value) (r : Bool) : Prop :=
 ∀ (w : World) (x y : Operand), (isC x || isC y) = true → (eqGuard (eqOp neg) t x y u v).run P w = .ok () w ∧ (binOp (eqOp neg) t u v).run P w = .ok (.bool (match neg with | true => !r | false => r)) w
def FRowW (σ : Sg) (w : World) (g cap esz : Nat) (rows : List (List AV)) : Prop :=
 ∃ e cur, w.heap[g]? = some (.cells cur e (0, 0)) ∧ cur.size = cap * esz ∧ rows.length ≤ cap ∧ (∀ c ∈ rows, c.length = esz) ∧ RelL σ (cur.toList.take (rows.length * esz)) rows.flatten ∧ (∀ u ∈ cur.toList, u.oneCell' = true) ∧ ∀ j, σ g j = none
structure BelowBut (g : Nat) (w w' : World) : Prop where
 os : w'.os = w.os
 tape : w'.tape = w.tape
 output : w'.output = w.output
 size : w.heap.size ≤ w'.heap.size
 block : ∀ k, k < w.heap.size → k ≠ g → w'.heap[k]? = w.heap[k]?
structure MF (P : Program) (f : FuncId) (args : List AV) (esz : Nat) (rows : List (List AV)) : Prop where
 cb : callable P f = true
 run : ∀ (σ : Sg) (w : World) (vs : List Value), Holds σ w → RelPs σ vs args → GW w →
  Calls P f vs.toArray w fun e w' => ∃ σ' g cap, e = .returned (.slice (some ⟨g, 0, none⟩) rows.length cap) ∧ Ext σ σ' w.heap.size ∧ Holds σ' w' ∧ Below w.heap.size w w' ∧ w.heap.size ≤ g ∧ FRowW σ' w' g cap esz rows
structure MT (P : Program) (f : FuncId) (args : List AV) (esz : Nat) (rows : List (List AV)) (as : List AV) : Prop where
 cb : callable P f = true
 run : ∀ (σ : Sg) (w : World) (vs : List Value), Holds σ w → RelPs σ vs args → GW w →
  Calls P f vs.toArray w fun e w' => ∃ σ' g cap us, e = .returned (.tuple (.slice (some ⟨g, 0, none⟩) rows.length cap :: us).toArray) ∧ RelPs σ' us as ∧ Ext σ σ' w.heap.size ∧ Holds σ' w' ∧ Below w.heap.size w w' ∧ w.heap.size ≤ g ∧ FRowW σ' w' g cap esz rows
structure MR (P : Program) (f : FuncId) (esz : Nat) (rows : List (List AV)) (args : List AV) (rows' : List (List AV)) : Prop where
 cb : callable P f = true
 run : ∀ (σ : Sg) (w : World) (g cap : Nat) (vs : List Value), Holds σ w → FRowW σ w g cap esz rows → RelPs σ vs args → GW w →
  Calls P f (.slice (some ⟨g, 0, none⟩) rows.length cap :: vs).toArray w fun e w' => ∃ σ' g' cap', e = .returned (.slice (some ⟨g', 0, none⟩) rows'.length cap') ∧ Ext σ σ' w.heap.size ∧ Holds σ' w' ∧ BelowBut g w w' ∧ (g' = g ∨ w.heap.size ≤ g') ∧ FRowW σ' w' g' cap' esz rows'
structure MN (P : Program) (f : FuncId) (args : List AV) (esz : Nat) (rows : List (List AV)) : Prop where
 cb : callable P f = true
 run : ∀ (σ : Sg) (w : World) (vs : List Value), Holds σ w → RelPs σ vs args → GW w →
  Calls P f (.slice none 0 0 :: vs).toArray w fun e w' => ∃ σ' g cap, e = .returned (.slice (some ⟨g, 0, none⟩) rows.length cap) ∧ Ext σ σ' w.heap.size ∧ Holds σ' w' ∧ Below w.heap.size w w' ∧ w.heap.size ≤ g ∧ FRowW σ' w' g cap esz rows
def memN (s : Nat) : List Nat → Bool
 | [] => false
 | x :: l => match Nat.beq x s with
  | true => true
  | false => memN s l
structure BelowK (K : Nat → Prop) (w w' : World) : Prop where
 os : w'.os = w.os
 tape : w'.tape = w.tape
 output : w'.output = w.output
 size : w.heap.size ≤ w'.heap.size
 block : ∀ k, k < w.heap.size → ¬ K k → w'.heap[k]? = w.heap[k]?
theorem BelowK.refl (K : Nat → Prop) (w : World) : BelowK K w w := ⟨rfl, rfl, rfl, Nat.le_refl _, fun _ _ _ => rfl⟩
theorem BelowK.of {w w' : World} (h : Below w.heap.size w w') (K : Nat → Prop) : BelowK K w w' := ⟨h.os, h.tape, h.output, h.size, fun k hk _ => h.block k hk⟩
theorem BelowK.trans {K K' : Nat → Prop} {a b c : World} (h : BelowK K a b) (k : BelowK K' b c) (hK : ∀ x, K' x → K x ∨ a.heap.size ≤ x) : BelowK K a c :=
 ⟨k.os.trans h.os, k.tape.trans h.tape, k.output.trans h.output, Nat.le_trans h.size k.size, fun i hi hn => (k.block i (Nat.lt_of_lt_of_le hi h.size) fun hx => by rcases hK i hx with e | e; exact hn e; omega).trans (h.block i hi hn)⟩
theorem BelowK.below {K : Nat → Prop} {w w' : World} (h : BelowK K w w') (hK : ∀ b, ¬ K b) : Below w.heap.size w w' := ⟨h.os, h.tape, h.output, h.size, fun k hk => h.block k hk (hK k)⟩
def ExtK (K : Nat → Prop) (σ σ' : Sg) (n : Nat) : Prop := σ.le σ' ∧ ∀ b o, b < n → ¬ K b → σ' b o = σ b o
theorem Ext.toK {σ σ' : Sg} {n : Nat} (h : Ext σ σ' n) (K : Nat → Prop) : ExtK K σ σ' n := ⟨h.1, fun b o hb _ => h.2 b o hb⟩
theorem ExtK.trans {K K' : Nat → Prop} {a b c : Sg} {n m : Nat} (h : ExtK K a b n) (k : ExtK K' b c m) (hm : n ≤ m) (hK : ∀ x, K' x → K x ∨ n ≤ x) : ExtK K a c n :=
 ⟨h.1.trans k.1, fun x o hx hn => (k.2 x o (Nat.lt_of_lt_of_le hx hm) fun hx' => by rcases hK x hx' with e | e; exact hn e; omega).trans (h.2 x o hx hn)⟩
theorem ExtK.ext {K : Nat → Prop} {σ σ' : Sg} {n : Nat} (h : ExtK K σ σ' n) (hK : ∀ b, ¬ K b) : Ext σ σ' n := ⟨h.1, fun b o hb => h.2 b o hb (hK b)⟩
def isGl (b : Nat) : Prop := (∃ x ∈ globL, x.1 = b) ∨ b ∈ globI ∨ b ∈ globZ
theorem GW.lt {w : World} (h : GW w) {b : Nat} (hb : isGl b) : b < w.heap.size := by
 rcases hb with ⟨x, hx, rfl⟩ | hb | hb
 ·obtain ⟨ty, fr, h1⟩ := h.cells x hx
  exact (Array.getElem?_eq_some_iff.1 h1).1
 ·obtain ⟨ev, ty, fr, h1, h2⟩ := h.ifc b hb
  exact (Array.getElem?_eq_some_iff.1 h1).1
 ·obtain ⟨m, h1⟩ := h.num b hb
  exact World.block_lt_of_cell? w _ h1
theorem GW.belowK {K : Nat → Prop} {w w' : World} (h : GW w) (hK : ∀ b, K b → ¬ isGl b) (hb : BelowK K w w') : GW w' where
 cells := fun x hx => by
  obtain ⟨ty, fr, h1⟩ := h.cells x hx
  exact ⟨ty, fr, (hb.block _ (Array.getElem?_eq_some_iff.1 h1).1 fun e => hK _ e (.inl ⟨x, hx, rfl⟩)).trans h1⟩
 ifc := fun g hx => by
  obtain ⟨ev, ty, fr, h1, h2⟩ := h.ifc g hx
  exact ⟨ev, ty, fr, (hb.block _ (Array.getElem?_eq_some_iff.1 h1).1 fun e => hK _ e (.inr (.inl hx))).trans h1, h2⟩
 num := fun g hx => by
  obtain ⟨m, h1⟩ := h.num g hx
  exact ⟨m, (World.cell?_of_block (w := w) (a := ⟨g, 0, none⟩) (hb.block g (World.block_lt_of_cell? w _ h1) fun e => hK _ e (.inr (.inr hx)))).trans h1⟩
def entV (e : MapEntry) : Value := .func (.func e.key.cells.size) #[] (e.key.cells ++ e.val.cells)
def mapV (ents : Array MapEntry) : Value := .func (.func 0) #[] (ents.toList.map entV).toArray
def OneV (v : Value) : Prop := v.cells.size = 1 → v.oneCell' = true
def ObjAt (id : Nat) (o : Obj) (t : TypeId) (vs : Array Value) : Prop :=
 match isMp id with
 | false => o = .cells vs t (0, 0)
 | true => ∃ ents clock, o = .map ents clock ∧ Go.MapKept.Stamped ents clock ∧ vs = #[mapV ents] ∧ ∀ e ∈ ents.toList, OneV e.key ∧ OneV e.val
def HeapAt (w : World) (g id : Nat) (t : TypeId) (vs : Array Value) : Prop := ∃ o, w.heap[g]? = some o ∧ ObjAt id o t vs
theorem HeapAt.lt {w : World} {g id : Nat} {t : TypeId} {vs : Array Value} (h : HeapAt w g id t vs) : g < w.heap.size := by
 obtain ⟨o, h1, _⟩ := h
 exact (Array.getElem?_eq_some_iff.1 h1).1
theorem HeapAt.of {w w' : World} {g id : Nat} {t : TypeId} {vs : Array Value} (h : HeapAt w g id t vs) (hb : w'.heap[g]? = w.heap[g]?) : HeapAt w' g id t vs := by
 obtain ⟨o, h1, h2⟩ := h
 exact ⟨o, hb.trans h1, h2⟩
theorem HeapAt.cells {w : World} {g id : Nat} {t : TypeId} {vs : Array Value} (h : HeapAt w g id t vs) (hm : isMp id = false) : w.heap[g]? = some (.cells vs t (0, 0)) := by
 obtain ⟨o, h1, h2⟩ := h
 unfold ObjAt at h2
 rw [hm] at h2
 rw [h1, show o = .cells vs t (0, 0) from h2]
theorem HeapAt.mk {w : World} {g id : Nat} {t : TypeId} {vs : Array Value} (hm : isMp id = false) (h : w.heap[g]? = some (.cells vs t (0, 0))) : HeapAt w g id t vs := by
 refine ⟨_, h, ?_⟩
 unfold ObjAt
 rw [hm]
theorem HeapAt.num {w : World} {g id id' : Nat} {t : TypeId} {vs : Array Value} (h : HeapAt w g id t vs) (hm : isMp id' = isMp id) : HeapAt w g id' t vs := by
 obtain ⟨o, h1, h2⟩ := h
 refine ⟨o, h1, ?_⟩
 unfold ObjAt at h2 ⊢
 rw [hm]
 exact h2
def npV (id g off : Nat) : Value := match isMp id with
 | true => .map (some g)
 | false => .pointer (some ⟨g, off, none⟩)
theorem npV_one (id g off : Nat) : (npV id g off).oneCell' = true := by unfold npV; split <;> rfl
theorem npV_ptr {id : Nat} (h : isMp id = false) (g off : Nat) : npV id g off = .pointer (some ⟨g, off, none⟩) := by unfold npV; rw [h]
def TagB (B : Nat → Option Nat) (v : Value) (a : AV) : Prop :=
 match a with
 | .np id off => ∃ g, v = npV id g off ∧ ∀ g', B id = some g' → g' = g
 | .sli id _ n cap => n ≤ cap ∧ ∃ g, v = .slice (some ⟨g, 0, none⟩) n cap ∧ ∀ g', B id = some g' → g' = g
 | _ => True
def BoxesAt (σ : Sg) (w : World) (B : Nat → Option Nat) (S : List (Nat × List AV)) : Prop :=
 ∀ id cs, (id, cs) ∈ S → ∃ g t vs, B id = some g ∧ HeapAt w g id t vs ∧ RelL σ vs.toList (cs.map AV.unown) ∧ (∀ (j : Nat) v a, vs.toList[j]? = some v → cs[j]? = some a → TagB B v a) ∧ ∀ j, σ g j = none
def RelB1 (σ : Sg) (B : Nat → Option Nat) (v : Value) (a : AV) : Prop :=
 match a with
 | .np id off => TagB B v (.np id off)
 | .sli id e n c => TagB B v (.sli id e n c)
 | a => RelP σ v a
def RelB (σ : Sg) (B : Nat → Option Nat) (v : Value) (a : AV) : Prop :=
 match a with
 | .tup l => ∃ vs : List Value, v = .tuple vs.toArray ∧ vs.length = l.length ∧ ∀ (j : Nat) u x, vs[j]? = some u → l[j]? = some x → RelB1 σ B u x
 | a => RelB1 σ B v a
def RelBs (σ : Sg) (B : Nat → Option Nat) (vs : List Value) (as : List AV) : Prop := vs.length = as.length ∧ ∀ (j : Nat) v a, vs[j]? = some v → as[j]? = some a → RelB1 σ B v a
def domS (S : List (Nat × List AV)) : List Nat := S.map (·.1)
structure MS (P : Program) (f : FuncId) (S : List (Nat × List AV)) (args : List AV) (S' : List (Nat × List AV)) (r : AV) : Prop where
 cb : callable P f = true
 run : ∀ (σ : Sg) (w : World) (B : Nat → Option Nat) (vs : List Value), Holds σ w → GW w → (∀ id g, B id = some g → id ∈ domS S) → (∀ id id' g, B id = some g → B id' = some g → id = id') → (∀ id g, B id = some g → ¬ isGl g) → BoxesAt σ w B S → RelBs σ B vs args →
  Calls P f vs.toArray w fun e w' => ∃ σ' v B', e = .returned v ∧ ExtK (fun b => ∃ id, B id = some b) σ σ' w.heap.size ∧ Holds σ' w' ∧ BelowK (fun b => ∃ id, B id = some b) w w' ∧ (∀ id g, B' id = some g → id ∈ domS S') ∧ (∀ id id' g, B' id = some g → B' id' = some g → id = id') ∧
   BoxesAt σ' w' B' S' ∧ RelB σ' B' v r ∧ (∀ id g, B' id = some g → (∃ id', B id' = some g) ∨ w.heap.size ≤ g) ∧ ∀ id g g', B id = some g → B' id = some g' → g = g'
def moSem (o : MO) (vs : List Value) : Sem Next :=
 match o, vs with
 | .get t ok, [x, k] => do pure (.value (← Instr.lookup t x k ok))
 | .set t, [m, k, v] => do Instr.mapUpdate t m k v; pure .skip
 | .new t, [] => do pure (.value (← Instr.makeMap t none))
 | .del t k ty, [x, y] => do pure (.value (← Builtin.delete_ #[t, k] ty #[x, y]))
 | .len t ty, [x] => do pure (.value (← Builtin.len_ #[t] ty #[x]))
 | _, _ => pure .skip
def MO.val : MO → Bool
 | .set _ => false
 | _ => true
structure MOp (P : Program) (o : MO) (S : List (Nat × List AV)) (args : List AV) (S' : List (Nat × List AV)) (r : AV) : Prop where
 run : ∀ (σ : Sg) (w : World) (B : Nat → Option Nat) (vs : List Value), Holds σ w → GW w → (∀ id g, B id = some g → id ∈ domS S) → (∀ id id' g, B id = some g → B id' = some g → id = id') → (∀ id g, B id = some g → ¬ isGl g) → BoxesAt σ w B S → RelBs σ B vs args →
  ∃ nx w' σ' v B', (moSem o vs).run P w = .ok nx w' ∧ nx = (match o.val with | true => Next.value v | false => Next.skip) ∧ ExtK (fun b => ∃ id, B id = some b) σ σ' w.heap.size ∧ Holds σ' w' ∧ BelowK (fun b => ∃ id, B id = some b) w w' ∧ (∀ id g, B' id = some g → id ∈ domS S') ∧ (∀ id id' g, B' id = some g → B' id' = some g → id = id') ∧
   BoxesAt σ' w' B' S' ∧ RelB σ' B' v r ∧ (∀ id g, B' id = some g → (∃ id', B id' = some g) ∨ w.heap.size ≤ g) ∧ ∀ id g g', B id = some g → B' id = some g' → g = g'
def AV.told : AV → AV
 | .lst (.own _ _) esz l => .lst .any esz l
 | .frs _ _ _ => .top
 | a => a
def AV.inS (ids : List Nat) : AV → Bool
 | .np id _ => Nat.ble 1000000 id && memN id ids
 | .sli id _ _ _ => Nat.ble 1000000 id && memN id ids
 | .lst (.own _ _) _ _ => false
 | .frs _ _ _ => false
 | _ => true
def AV.told1 (ids : List Nat) : AV → Bool
 | .int _ _ | .bool _ | .str _ | .ro _ | .fn _ _ | .raw _ | .top => true
 | .lst t _ _ => match t with
  | .own _ _ => false
  | _ => true
 | .agg cs => cs.all (AV.inS [])
 | .np id _ => Nat.ble 1000000 id && memN id ids
 | .sli id _ _ _ => Nat.ble 1000000 id && memN id ids
 | _ => false
def argsN : List AV → Option (List AV)
 | [] => some []
 | .np id off :: l => match argsN l with
  | some xs => some (.np id off :: xs)
  | none => none
 | .ptr id off :: l => match argsN l with
  | some xs => some (.np id off :: xs)
  | none => none
 | .sli id e n c :: l => match argsN l with
  | some xs => some (.sli id e n c :: xs)
  | none => none
 | a :: l => match a.arg, argsN l with
  | some x, some xs => some (x :: xs)
  | _, _ => none
def handS (st : Nat → Option (List AV × Bool)) : List Nat → Option (List (Nat × List AV))
 | [] => some []
 | id :: l => match st id, handS st l with
  | some (cs, false), some r => some ((id, cs.map AV.told) :: r)
  | _, _ => none
def clrC (N : List Nat) : AV → AV
 | .np id off => match memN id N with
  | true => .top
  | false => .np id off
 | .sli id e n c => match memN id N with
  | true => .top
  | false => .sli id e n c
 | a => a
def clrA (N : List Nat) : AV → AV
 | .agg cs => .agg (cs.map (clrC N))
 | .tup l => .tup (l.map (clrC N))
 | .pel id e i k c => match memN id N with
  | true => .top
  | false => .pel id e i k c
 | a => clrC N a
def clrS (N : List Nat) : AV → AV
 | .when c a => .when c (clrA N a)
 | a => clrA N a
def clrF (N : List Nat) (fr : Fr) : Fr := match N with
 | [] => fr
 | _ => fun s => match fr s with
  | some a => some (clrS N a)
  | none => none
def clrB (N : List Nat) (b : Nat → Option (List AV × Bool)) : Nat → Option (List AV × Bool) := match N with
 | [] => b
 | _ => fun k => match b k with
  | some (ds, fz) => some (ds.map (clrC N), fz)
  | none => none
def getS : List (Nat × List AV) → Nat → Option (List AV)
 | [], _ => none
 | (i, cs) :: l, id => match Nat.beq i id with
  | true => some cs
  | false => getS l id
def putS (b : Nat → Option (List AV × Bool)) (ids : List Nat) (S : List (Nat × List AV)) : Nat → Option (List AV × Bool) := fun k => match getS S k with
 | some cs => some (cs, false)
 | none => match memN k ids with
  | true => none
  | false => b k
def newIds (ids : List Nat) : List (Nat × List AV) → List Nat
 | [] => []
 | (i, _) :: l => match memN i ids with
  | true => newIds ids l
  | false => i :: newIds ids l
def freeIds (b : Nat → Option (List AV × Bool)) : List Nat → Bool
 | [] => true
 | i :: l => match b i with
  | none => Nat.ble 1000000 i && Nat.blt i 2000000 && freeIds b l
  | some _ => false
def okS (ids : List Nat) (S : List (Nat × List AV)) (r : AV) : Bool := ids.all (fun i => Nat.ble 1000000 i || memN i (domS S)) && S.all (fun x => x.2.all (AV.inS (domS S))) && (match r with | .tup l => l.all (AV.told1 (domS S)) | r => r.told1 (domS S))
def RowsOk (esz : Nat) (rows : List (List AV)) : Prop := 0 < esz ∧ ∀ c ∈ rows, c.length = esz ∧ c.map AV.unown = c
def AV.flat1 : AV → Bool
 | .int _ _ | .bool _ | .str _ => true
 | _ => false
def AV.flat : AV → Bool
 | .tup l => l.all AV.flat1
 | a => a.flat1
def astep (P : Program) (i : AI) (rs : Option RS) (fr : Fr) (st : St) : Option (Fr × St × Prop) :=
 match i with
 | .mov d x => match x.ev fr with
  | some a => some (put1 fr d a, st, True)
  | none => none
 | .pick d c a b => match c.ev fr with
  | some (.bool cb) => match a with
   | .k (.bool true) => match b.ev fr with
    | some (.when g (.bool e)) => some (put1 fr d (.bool (cb || e)), st, cb = false → g = true)
    | some (.bool e) => some (put1 fr d (.bool (cb || e)), st, True)
    | _ => none
   | a => match b with
    | .k (.bool false) => match a.ev fr with
     | some (.when g (.bool e)) => some (put1 fr d (.bool (cb && e)), st, cb = true → g = true)
     | some (.bool e) => some (put1 fr d (.bool (cb && e)), st, True)
     | _ => none
    | _ => none
  | _ => none
 | .box d x => match x.ev fr, st.box d with
  | some a, none => match a.vcells with
   | some cs => some (put1 fr d (.ptr d 0), { st with box := upd st.box d (some (cs, false)) }, True)
   | none => none
  | _, _ => none
 | .alloc d z => match st.box d with
  | none => some (put1 fr d (.ptr d 0), { st with box := upd st.box d (some (z, false)) }, True)
  | some _ => none
 | .ld d n agg p => match p.ev fr with
  | some (.ptr id off) => match st.cbox id with
   | some (cs, _) => match dropN off cs with
    | some cs => match agg with
     | true => match takeN n cs with
      | some cs => some (put1 fr d (.agg cs), st, True)
      | none => none
     | false => match getN 0 cs with
      | some a => some (put1 fr d a, st, True)
      | none => none
    | none => none
   | none => none
  | some (.ro cs) => match agg with
   | true => match takeN n cs with
    | some cs => some (put1 fr d (.agg cs), st, True)
    | none => none
   | false => match getN 0 cs with
    | some a => some (put1 fr d a, st, True)
    | none => none
  | some (.pel id esz i k c) => match st.cbox id with
   | some (cs, _) => match dropN k c with
    | some c' => match agg with
     | true => match takeN n c' with
      | some c' => some (put1 fr d (.agg c'), st, c.length = esz ∧ (cs.drop (i * esz)).take esz = c)
      | none => none
     | false => match getN 0 c' with
      | some a => some (put1 fr d a, st, c.length = esz ∧ (cs.drop (i * esz)).take esz = c)
      | none => none
    | none => none
   | none => none
  | some (.np id off) => match st.cbox id with
   | some (cs, _) => match dropN off cs with
    | some cs => match agg with
     | true => match takeN n cs with
      | some cs => some (put1 fr d (.agg cs), st, True)
      | none => none
     | false => match getN 0 cs with
      | some a => some (put1 fr d a, st, True)
      | none => none
    | none => none
   | none => none
  | _ => none
 | .st n p x => match p.ev fr, x.ev fr with
  | some (.pel id esz i k c), some a => match a.vcells, st.cbox id with
   | some xs, some (cs, false) => match Nat.beq xs.length n, splice k xs c with
    | true, some c' => some (fr, { st with box := upd st.box id (some (cs.take (i * esz) ++ c' ++ cs.drop (i * esz + esz), false)) }, c.length = esz ∧ (cs.drop (i * esz)).take esz = c)
    | _, _ => none
   | _, _ => none
  | some (.ptr id off), some a => match a.vcells, st.cbox id with
   | some cs, some (old, false) => match Nat.beq cs.length n, splice off cs old with
    | true, some new => some (fr, { st with box := upd st.box id (some (new, false)) }, True)
    | _, _ => none
   | _, _ => none
  | some (.np id off), some a => match a.vcells, st.cbox id with
   | some cs, some (old, false) => match Nat.beq cs.length n, splice off cs old with
    | true, some new => some (fr, { st with box := upd st.box id (some (new, false)) }, True)
    | _, _ => none
   | _, _ => none
  | _, _ => none
 | .off d k p => match p.ev fr with
  | some (.ptr id off) => some (put1 fr d (.ptr id (off + k)), st, True)
  | some (.ro cs) => match dropN k cs with
   | some cs => some (put1 fr d (.ro cs), st, True)
   | none => none
  | some (.pel id esz i k' c) => some (put1 fr d (.pel id esz i (k' + k) c), st, True)
  | some (.np id off) => match isMp id with
   | true => none
   | false => some (put1 fr d (.np id (off + k)), st, True)
  | _ => none
 | .b2s d x => match x.ev fr with
  | some (.lst _ esz l) => match bytesOfRows l with
   | some (bs, q) => some (put1 fr d (.str ⟨bs.toArray⟩), st, esz = 1 ∧ 0 < l.length ∧ q)
   | none => none
  | _ => none
 | .offi d n esz x i => match x.ev fr, i.ev fr with
  | some (.ptr id off), some (.int _ k) => some (put1 fr d (.ptr id (off + k.toNat * esz)), st, 0 ≤ k ∧ k < n)
  | some (.np id off), some (.int _ k) => match isMp id with
   | true => none
   | false => some (put1 fr d (.np id (off + k.toNat * esz)), st, 0 ≤ k ∧ k < n)
  | _, _ => none
 | .idx d esz x i => match x.ev fr, i.ev fr, rs with
  | some (.sli id esz' n _), some (.int _ k), some (.c cs) => some (put1 fr d (.pel id esz k.toNat 0 cs), st, esz' = esz ∧ 0 ≤ k ∧ k < n)
  | some (.lst _ esz' l), some (.int _ n), some (.c cs) => some (put1 fr d (.ro cs), st, esz' = esz ∧ 0 ≤ n ∧ l[n.toNat]? = some cs)
  | _, _, _ => none
 | .bin d op bt x y => match x.ev fr, y.ev fr with
  | some a, some b => match binAV op bt a b with
   | some (c, p) => some (put1 fr d c, st, p)
   | none => none
  | _, _ => none
 | .un d op x => match x.ev fr with
  | some a => match unAV op a with
   | some c => some (put1 fr d c, st, True)
   | none => none
  | none => none
 | .build d z ps => match afill fr z ps with
  | some cs => some (put1 fr d (.agg cs), st, True)
  | none => none
 | .bsl d n esz z ps => match afill fr z ps with
  | some cs => match chunk esz n cs with
   | some l => some (put1 fr d (.lst .full esz l), st, True)
   | none => none
  | none => none
 | .len d b x => match b, x.ev fr with
  | false, some (.lst _ _ l) => some (put1 fr d (.int .i64 l.length), st, True)
  | false, some (.sli _ _ n _) => some (put1 fr d (.int .i64 n), st, True)
  | false, some (.frs _ _ rows) => some (put1 fr d (.int .i64 rows.length), st, True)
  | true, some (.str s) => some (put1 fr d (.int .i64 s.size), st, True)
  | _, _ => none
 | .app d esz bytes x y => match x.ev fr, y.ev fr with
  | some (.lst t esz' l), some (.lst t2 esz2 m) => some (put1 fr d (.lst (appTag st d t) esz (l ++ m)), { st with row := appRow st d t }, OwnTag st t ∧ lstEsz t esz' esz ∧ lstEsz t2 esz2 esz ∧ (l.length + m.length) * bytes ≤ 140737488355328 ∧ l.length + m.length ≤ 140737488355328 ∧ fullOk t l m)
  | _, _ => none
 | .appr d esz bytes x y => match x.ev fr, y.ev fr, rs with
  | some (.sli id esz' n cap0), some (.lst t2 esz2 m), some (.m rows _) => match st.cbox id, fr d with
   | some (cs, false), none => some (put1 fr d (.frs d esz (rows ++ m)), { st with box := upd st.box id none }, (∃ sp, cs = rows.flatten ++ sp) ∧ cs.length = cap0 * esz ∧ esz' = esz ∧ n = rows.length ∧ RowsOk esz rows ∧ lstEsz t2 esz2 esz ∧ 0 < m.length ∧ (rows.length + m.length) * bytes ≤ 140737488355328 ∧ rows.length + m.length ≤ 140737488355328)
   | _, _ => none
  | some (.lst .nil _ _), some (.lst t2 esz2 m), some (.m _ _) => match fr d with
   | none => some (put1 fr d (.frs d esz m), st, lstEsz t2 esz2 esz ∧ 0 < m.length ∧ m.length * bytes ≤ 140737488355328 ∧ m.length ≤ 140737488355328)
   | some _ => none
  | _, _, _ => none
 | .ext d i x => match x.ev fr with
  | some (.tup l) => match getN i l with
   | some a => some (put1 fr d a, st, True)
   | none => none
  | _ => none
 | .call d f args => match f.ev fr, evs fr args, rs with
  | some (.fn f cap), some as, some (.v r) => match argsOf as with
   | some as => some ((match d with | some d => put1 fr d r | none => fr), st, AC P f (as ++ cap) r)
   | none => none
  | some (.fn f cap), some as, some (.f esz rows) => match argsOf as, d with
   | some as, some d => match fr d with
    | none => some (put1 fr d (.frs d esz rows), st, MF P f (as ++ cap) esz rows)
    | some _ => none
   | _, _ => none
  | _, _, _ => none
 | .callo d f args => match f.ev fr, evs fr args, rs with
  | some (.fn f cap), some as, some (.v r) => match argsOf as with
   | some as => some ((match d with | some d => put1 fr d r | none => fr), st, AC P f (as ++ cap) r)
   | none => none
  | some (.fn f cap), some as, some (.o esz rows) => match argsOf as, d with
   | some as, some d => some (put1 fr d (.lst (.own d (st.row d + 1)) esz rows), { st with row := upd st.row d (st.row d + 1) }, MF P f (as ++ cap) esz rows)
   | _, _ => none
  | _, _, _ => none
 | .callr d f args => match f.ev fr, evs fr args, rs with
  | some (.fn f cap), some (.sli id esz n cap0 :: as), some (.m rows rows') => match argsOf as, st.cbox id, d with
   | some as, some (cs, false), some d => match fr d with
    | none => some (put1 fr d (.frs d esz rows'), { st with box := upd st.box id none }, (∃ sp, cs = rows.flatten ++ sp) ∧ cs.length = cap0 * esz ∧ n = rows.length ∧ RowsOk esz rows ∧ MR P f esz rows (as ++ cap) rows')
    | some _ => none
   | _, _, _ => none
  | some (.fn f cap), some (.lst .nil _ _ :: as), some (.n esz rows) => match argsOf as, d with
   | some as, some d => match fr d with
    | none => some (put1 fr d (.frs d esz rows), st, MN P f (as ++ cap) esz rows)
    | some _ => none
   | _, _ => none
  | some (.fn f cap), some (.sli id esz n cap0 :: as), some (.b rows r) => match argsOf as, st.cbox id, r.flat with
   | some as, some (cs, false), true => some ((match d with | some d => put1 fr d r | none => fr), st, (∃ sp, cs = rows.flatten ++ sp) ∧ cs.length = cap0 * esz ∧ n = rows.length ∧ RowsOk esz rows ∧ AC P f (.lst .any esz rows :: (as ++ cap)) r)
   | _, _, _ => none
  | some (.fn f cap), some as, some (.v r) => match argsOf as with
   | some as => some ((match d with | some d => put1 fr d r | none => fr), st, AC P f (as ++ cap) r)
   | none => none
  | some (.fn f cap), some as, some (.f esz rows) => match argsOf as, d with
   | some as, some d => match fr d with
    | none => some (put1 fr d (.frs d esz rows), st, MF P f (as ++ cap) esz rows)
    | some _ => none
   | _, _ => none
  | _, _, _ => none
 | .calls d f args => match f.ev fr, evs fr args, rs with
  | some (.fn f cap), some as, some (.v r) => match argsOf as with
   | some as => some ((match d with | some d => put1 fr d r | none => fr), st, AC P f (as ++ cap) r)
   | none => none
  | some (.fn f cap), some as, some (.t esz rows bs) => match argsOf as, d with
   | some as, some d => match fr d with
    | none => some (put1 fr d (.tup (.frs d esz rows :: bs)), st, MT P f (as ++ cap) esz rows bs)
    | some _ => none
   | _, _ => none
  | some (.fn f cap), some as, some (.s ids S' r) => match argsN as, handS st.box ids with
   | some as, some S => some ((match d with | some d => put1 (clrF (newIds ids S') fr) d r | none => clrF (newIds ids S') fr), ⟨putS (clrB (newIds ids S') st.box) ids S', st.row⟩, MS P f S (as ++ cap) S' r ∧ (okS ids S' r && freeIds st.box (newIds ids S')) = true)
   | _, _ => none
  | _, _, _ => none
 | .mop o d args => match evs fr args, rs with
  | some as, some (.s ids S' r) => match argsN as, handS st.box ids with
   | some as, some S => some ((match d with | some d => put1 (clrF (newIds ids S') fr) d r | none => clrF (newIds ids S') fr), ⟨putS (clrB (newIds ids S') st.box) ids S', st.row⟩, MOp P o S as S' r ∧ (okS ids S' r && freeIds st.box (newIds ids S')) = true)
   | _, _ => none
  | _, _ => none
 | .rng _ _ _ => none
 | .nxt _ _ => none
 | .ent _ _ => none
 | .sub d tb esz' x lo hi => match tb, x.ev fr with
  | true, some (.str s) => match intOfOpt fr 0 lo, intOfOpt fr s.size hi with
   | some a, some b => some (put1 fr d (.str (s.extract a.toNat b.toNat)), st, 0 ≤ a ∧ a ≤ b ∧ b ≤ s.size)
   | _, _ => none
  | false, some (.lst _ esz l) => match intOfOpt fr 0 lo, intOfOpt fr l.length hi with
   | some a, some b => some (put1 fr d (.lst .any esz ((l.take b.toNat).drop a.toNat)), st, esz = esz' ∧ 0 ≤ a ∧ a ≤ b ∧ b ≤ l.length)
   | _, _ => none
  | _, _ => none
 | .bidx d x i => match x.ev fr, i.ev fr with
  | some (.str s), some (.int _ n) => some (put1 fr d (.int .u8 (s.data.getD n.toNat 0).toNat), st, 0 ≤ n ∧ n < s.size)
  | _, _ => none
 | .mx d x y => match x.ev fr, y.ev fr with
  | some (.int k n), some (.int _ m) => some (put1 fr d (.int k (match decide (m > n) with | true => m | false => n)), st, True)
  | _, _ => none
 | .conv d k x => match x.ev fr with
  | some (.int _ n) => some (put1 fr d (.int k (k.wrap n)), st, True)
  | _ => none
 | .mkfn d f cap => match freeze st fr cap with
  | some (cs, st') => some (put1 fr d (.fn f cs), st', True)
  | none => none
 | .eqs d neg t x y => match x.ev fr, y.ev fr with
  | some (.agg cs), some (.agg ds) => match pcells cs, pcells ds with
   | some us, some vs => some (put1 fr d (.bool (match neg with | true => !eqCells cs ds | false => eqCells cs ds)), st, EqRun P neg t us vs (eqCells cs ds))
   | _, _ => none
  | some (.raw u), some (.raw v) => match nilQ u, nilQ v with
   | some b, some c => match x.isK || y.isK with
    | true => some (put1 fr d (.bool (match neg with | true => !(b && c) | false => b && c)), st, NilRun P neg t u v (b && c))
    | false => none
   | _, _ => none
  | some (.np id _), some (.raw v) => match nilQ v, y.isK, isMp id with
   | some true, true, false => some (put1 fr d (.bool (match neg with | true => true | false => false)), st, ∀ g o, NilRun P neg t (.pointer (some ⟨g, o, none⟩)) v false)
   | _, _, _ => none
  | _, _ => none
def AI.wantsRS : AI → Bool
 | .idx .. | .call .. | .callr .. | .callo .. | .calls .. | .mop .. | .appr .. => true
 | _ => false
def AI.dst : AI → Option Nat
 | .mov d _ | .pick d _ _ _ | .box d _ | .alloc d _ | .ld d _ _ _ | .off d _ _ | .b2s d _ | .offi d _ _ _ _ | .idx d _ _ _ | .bin d _ _ _ _ | .un d _ _ | .build d _ _ | .bsl d _ _ _ _ | .len d _ _ | .app d _ _ _ _ | .appr d _ _ _ _ | .ext d _ _
 | .sub d _ _ _ _ _ | .bidx d _ _ | .mx d _ _ | .conv d _ _ | .mkfn d _ _ | .eqs d _ _ _ _ => some d
 | .call d _ _ => d
 | .callr d _ _ => d
 | .callo d _ _ => d
 | .calls d _ _ => d
 | .mop _ d _ => d
 | .rng _ d _ => some d
 | .nxt d _ => some d
 | .ent d _ => some d
 | .st _ _ _ => none
def Opd.slots : Opd → List Nat
 | .s n => [n]
 | .k _ => []
def optSlots : Option Opd → List Nat
 | some x => x.slots
 | none => []
def AI.reads : AI → List Nat
 | .mov _ x | .box _ x | .ld _ _ _ x | .off _ _ x | .un _ _ x | .len _ _ x | .ext _ _ x | .conv _ _ x | .b2s _ x => x.slots
 | .pick _ c a b => c.slots ++ (a.slots ++ b.slots)
 | .alloc _ _ => []
 | .st _ p x => p.slots ++ x.slots
 | .offi _ _ _ x i | .idx _ _ x i | .bidx _ x i | .mx _ x i | .bin _ _ _ x i | .app _ _ _ x i | .appr _ _ _ x i | .eqs _ _ _ x i => x.slots ++ i.slots
 | .build _ _ ps | .bsl _ _ _ _ ps => ps.flatMap fun x => x.2.2.slots
 | .call _ f args => f.slots ++ args.flatMap Opd.slots
 | .callr _ f args => f.slots ++ args.flatMap Opd.slots
 | .callo _ f args => f.slots ++ args.flatMap Opd.slots
 | .calls _ f args => f.slots ++ args.flatMap Opd.slots
 | .mop _ _ args => args.flatMap Opd.slots
 | .rng _ _ x => x.slots
 | .nxt _ x => x.slots
 | .ent _ x => x.slots
 | .sub _ _ _ x lo hi => x.slots ++ (optSlots lo ++ optSlots hi)
 | .mkfn _ _ cap => cap.flatMap Opd.slots
inductive Cl where
 | pure | ld | app | new | st | frz | strict | hard
def AI.cl : AI → Cl
 | .ld .. => .ld
 | .app .. => .app
 | .box .. | .alloc .. => .new
 | .st .. => .st
 | .mkfn .. => .frz
 | .callr .. | .appr .. => .strict
 | .calls .. | .mop .. | .rng .. | .nxt .. | .ent .. => .hard
 | .callo .. => .app
 | _ => .pure
def AI.still (i : AI) : Bool := match i.cl with
 | .pure | .ld => true
 | _ => false
def AI.unw : AI → List Nat
 | .pick _ c _ _ => c.slots
 | i => i.reads
def gd (b w : Bool) : Bool := match w with
 | true => b
 | false => !b
def GI.ctx (x : GI) (fr : Fr) : Option (Option Bool) :=
 match x.g with
 | none => some none
 | some (s, w) => match fr s with
  | some (.bool b) => some (some (gd b w))
  | some (.when c (.bool b)) => some (some (c && gd b w))
  | _ => none
def AV.isWhen : AV → Bool
 | .when _ _ => true
 | _ => false
def unwr (fr : Fr) (l : List Nat) : Fr := fun s => match memN s l with
 | true => match fr s with
  | some (.when c a) => match a.isWhen with
   | false => some a
   | true => some (.when c a)
  | x => x
 | false => fr s
def availB (fr : Fr) : List Nat → List Bool
 | [] => []
 | s :: l => match fr s with
  | some (.when c _) => c :: availB fr l
  | _ => availB fr l
def allT : List Bool → Prop
 | [] => True
 | b :: l => b = true ∧ allT l
def forceL : List Bool → Option (List Bool)
 | [] => some []
 | b :: l => match forceL l with
  | some r => some (b :: r)
  | none => none
def gstep (P : Program) (x : GI) (rs : Option RS) (fr : Fr) (st : St) : Option (Fr × St × Prop) :=
 match x.ctx fr with
 | some none => astep P x.i rs fr st
 | some (some c) => match x.i.still, x.i.dst with
  | true, some d => match astep P x.i rs (unwr fr x.i.unw) st with
   | some (fr2, _, p) => match fr2 d with
    | some v => match v.isWhen, forceL (availB fr x.i.unw) with
     | false, some bs => some (upd fr d (some (.when c v)), st, c = true → p ∧ allT bs)
     | _, _ => none
    | none => none
   | none => none
  | _, _ => match x.i.cl with
   | .hard => match astep P x.i rs (unwr fr x.i.unw) st with
    | some (fr2, st2, p) => match forceL (availB fr x.i.unw) with
     | some bs => some (fr2, st2, c = true ∧ p ∧ allT bs)
     | none => none
    | none => none
   | _ => none
 | none => none
def AI.silent : AI → Bool
 | .mov .. | .box .. | .alloc .. | .ld .. | .st .. | .off .. | .un .. | .build .. | .bsl .. | .len .. | .ext .. | .conv .. | .mkfn .. => true
 | .bin _ op _ _ _ => match op with
  | .eql | .neq | .lss | .leq | .gtr | .geq | .sub | .mul | .and | .or | .xor => true
  | _ => false
 | _ => false
def AI.loud (i : AI) (fr : Fr) : Bool := match i with
 | .ld _ _ _ p | .st _ p _ => match p.ev fr with
  | some (.pel _ _ _ _ _) => true
  | _ => false
 | _ => false
def GI.quiet (x : GI) (fr : Fr) : Bool := match x.i.silent with
 | true => match x.ctx fr with
  | some none => !(x.i.loud fr)
  | some (some _) => match availB fr x.i.unw with
   | [] => !(x.i.loud (unwr fr x.i.unw))
   | _ :: _ => false
  | none => false
 | false => false
def arun (P : Program) : List GI → List RS → Fr → St → Option (List RS × Fr × St × Prop)
 | [], rs, fr, st => some (rs, fr, st, True)
 | x :: l, rs, fr, st => match x.i.wantsRS with
  | true => match rs with
   | r :: rs => match gstep P x (some r) fr st with
    | some (fr, st, p) => match arun P l rs fr st with
     | some (rs, fr, st, q) => some (rs, fr, st, p ∧ q)
     | none => none
    | none => none
   | [] => none
  | false => match x.quiet fr, gstep P x none fr st with
   | true, some (fr, st, _) => arun P l rs fr st
   | false, some (fr, st, p) => match arun P l rs fr st with
    | some (rs, fr, st, q) => some (rs, fr, st, p ∧ q)
    | none => none
   | _, none => none
def constAV (P : Program) (t : TypeId) : Value → Option AV
 | .int k n => some (.int k n)
 | .bool b => some (.bool b)
 | .string s => some (.str s)
 | .slice none 0 0 => match P.underlying t with
  | some (.slice e) => some (.lst .nil (P.cellsOf e) [])
  | _ => some (.lst .nil 0 [])
 | .pointer none => some (.raw (.pointer none))
 | .map none => some (.raw (.map none))
 | .nilFunc => some (.raw .nilFunc)
 | .nilIface => some (.raw .nilIface)
 | _ => none
def opdOf (P : Program) (t : TypeId) : Operand → Option Opd
 | .tmp n => some (.s n)
 | .const v => (constAV P t v).map .k
 | .func f => some (.k (.fn f []))
 | .global _ => none
def leaves (P : Program) : Nat → TypeId → List TypeId
 | 0, _ => []
 | n + 1, t => match P.underlying t with
  | some (.struct fs) => fs.toList.flatMap fun f => leaves P n f.type
  | some (.array k e) => (List.replicate k (leaves P n e)).flatten
  | _ => [t]
def zeroCellsAV (P : Program) (ts : List TypeId) : List Value → Option (List AV)
 | [] => some []
 | v :: vs => match constAV P (ts.headD 0) v, zeroCellsAV P ts.tail vs with
  | some a, some as => some (a :: as)
  | _, _ => none
def zeroAV (P : Program) (t : TypeId) : Option (List AV) :=
 match P.info? t with
 | some i => match i.zero with
  | some v => zeroCellsAV P (leaves P 8 t) v.cells.toList
  | none => none
 | none => none
def isAggT (P : Program) (t : TypeId) : Bool :=
 match P.underlying t with
 | some (.struct _) | some (.array _ _) => true
 | _ => false
def eqType (P : Program) (t : TypeId) : Bool :=
 match P.underlying t with
 | some (.struct _) => true
 | some (.interface _) => true
 | some (.pointer _) => true
 | _ => false
def structEq (P : Program) (op : BinOp) (t : TypeId) : Option Bool :=
 match op with
 | .eql => match eqType P t with
  | true => some false
  | false => none
 | .neq => match eqType P t with
  | true => some true
  | false => none
 | _ => none
def isBoolT (P : Program) (t : TypeId) : Bool :=
 match P.underlying t with
 | some .bool => true
 | _ => false
def partsOf (P : Program) (place : Nat → Option (Nat × Nat × TypeId)) : List (Nat × Operand) → Option (List (Nat × Nat × Opd))
 | [] => some []
 | (i, x) :: l => match place i with
  | some (off, size, t) => match opdOf P t x, partsOf P place l, Nat.ble 1 size with
   | some x, some l, true => some ((off, size, x) :: l)
   | _, _, _ => none
  | none => none
def opdsOf (P : Program) : List Operand → List TypeId → Option (List Opd)
 | [], _ => some []
 | x :: l, ts => match opdOf P (ts.headD 0) x, opdsOf P l ts.tail with
  | some x, some l => some (x :: l)
  | _, _ => none
def optOpd (P : Program) : Option Operand → Option (Option Opd)
 | none => some none
 | some x => match opdOf P 0 x with
  | some x => some (some x)
  | none => none
def isMut (mu : List Nat) : Opd → Bool
 | .k (.fn f []) => memN f mu
 | _ => false
def isOwn (mu : List Nat) : Opd → Bool
 | .k (.fn f []) => memN (f + 1000000) mu
 | _ => false
def isMeth (mu : List Nat) : Opd → Bool
 | .k (.fn f []) => memN (f + 2000000) mu
 | _ => false
def opAI (P : Program) (mu : List Nat) (gs : Bool) (o : Oper) : Option AI :=
 match o.op with
 | .move x | .assign x => match o.dst, opdOf P o.type x with
  | some d, some x => some (.mov d x)
  | _, _ => none
 | .pick c a b => match o.dst, opdOf P 0 c, opdOf P o.type a, opdOf P o.type b with
  | some d, some c, some a, some b => some (.pick d c a b)
  | _, _, _, _ => none
 | .box t x => match o.dst, opdOf P t x with
  | some d, some x => some (.box d x)
  | _, _ => none
 | .alloc t => match o.dst, zeroAV P t with
  | some d, some z => some (.alloc d z)
  | _, _ => none
 | .load t p => match o.dst, opdOf P 0 p, P.info? t with
  | some d, some p, some i => if (P.underlying t).isSome then some (.ld d i.size (isAggT P t) p) else none
  | _, _, _ => none
 | .store t p x => match o.dst, opdOf P 0 p, opdOf P t x, P.info? t with
  | none, some p, some x, some i => some (.st i.size p x)
  | _, _, _, _ => none
 | .fieldAddr t p j => match o.dst, opdOf P 0 p, P.underlying t with
  | some d, some p, some (.struct fs) => match fs[j]? with
   | some f => if (P.cellsOf f.type) = 0 then none else some (.off d f.offset p)
   | none => none
  | _, _, _ => none
 | .nilCheck x => match o.dst, opdOf P 0 x with
  | some d, some x => some (.off d 0 x)
  | _, _ => none
 | .indexAddr t x i => match o.dst, opdOf P t x, opdOf P 0 i, P.underlying t with
  | some d, some x, some i, some (.slice e) => match P.info? e with
   | some inf => if 0 < inf.size then some (.idx d inf.size x i) else none
   | none => none
  | some d, some x, some i, some (.array n e) => match P.info? e with
   | some inf => if 0 < inf.size then some (.offi d n inf.size x i) else none
   | none => none
  | _, _, _, _ => none
 | .index t x i => match o.dst, opdOf P t x, opdOf P 0 i, P.underlying t with
  | some d, some x, some i, some .string => some (.bidx d x i)
  | _, _, _, _ => none
 | .binOp op t x y _ => match o.dst, opdOf P t x, opdOf P t y with
  | some d, some x, some y => match structEq P op t with
   | some neg => some (.eqs d neg t x y)
   | none => some (.bin d op (isBoolT P t) x y)
  | _, _, _ => none
 | .unOp op _ x => match o.dst, opdOf P 0 x with
  | some d, some x => some (.un d op x)
  | _, _ => none
 | .build t ps => match o.dst, zeroAV P t, P.underlying t with
  | some d, some z, some (.struct fs) => match fs.toList.mapM (fun f => (P.info? f.type).map fun i => (f.offset, i.size)) with
   | some pl => match partsOf P (fun i => match pl.toArray[i]?, fs[i]? with | some (off, size), some f => some (off, size, f.type) | _, _ => none) ps.toList with
    | some l => some (.build d z l)
    | none => none
   | none => none
  | _, _, _ => none
 | .buildSlice t n ps => match o.dst, P.underlying t with
  | some d, some (.slice e) => match P.info? e, zeroAV P e with
   | some inf, some z => if 0 < inf.size ∧ n * inf.size ≤ 16777216 ∧ z.length = inf.size then match partsOf P (fun i => some (i * inf.size, inf.size, e)) ps.toList with
     | some l => some (.bsl d n inf.size (List.replicate n z).flatten l)
     | none => none
    else none
   | _, _ => none
  | _, _ => none
 | .extract x i => match o.dst, opdOf P 0 x with
  | some d, some x => some (.ext d i x)
  | _, _ => none
 | .slice t x lo hi none => match o.dst, opdOf P t x, optOpd P lo, optOpd P hi, P.underlying t with
  | some d, some x, some lo, some hi, some .string => some (.sub d true 0 x lo hi)
  | some d, some x, some lo, some hi, some (.slice e) => match P.info? e with
   | some inf => if 0 < inf.size then some (.sub d false inf.size x lo hi) else none
   | none => none
  | _, _, _, _, _ => none
 | .convert s t x => match o.dst, opdOf P s x, P.underlying s, P.underlying t with
  | some d, some x, some (.int _), some (.int k) => some (.conv d k x)
  | some d, some x, some (.slice e), some .string => match P.underlying e with
   | some (.int .u8) => some (.b2s d x)
   | _ => none
  | _, _, _, _ => none
 | .lookup t x y ok => match P.underlying t, o.dst with
  | some (.map k _), some d => match opdsOf P [x, y] [t, k] with
   | some args => some (.mop (.get t ok) (some d) args)
   | none => none
  | _, _ => none
 | .mapUpdate t x y z => match P.underlying t, o.dst with
  | some (.map k e), none => match opdsOf P [x, y, z] [t, k, e] with
   | some args => some (.mop (.set t) none args)
   | none => none
  | _, _ => none
 | .makeMap t none => match o.dst with
  | some d => some (.mop (.new t) (some d) [])
  | none => none
 | .range t x => match P.underlying t, o.dst, opdOf P t x with
  | some (.map _ _), some d, some x => some (.rng t d x)
  | _, _, _ => none
 | .next x false => match o.dst, opdOf P 0 x with
  | some d, some x => some (.nxt d x)
  | _, _ => none
 | .entry x => match o.dst, opdOf P 0 x with
  | some d, some x => some (.ent d x)
  | _, _ => none
 | .makeFunc (.func f) first cap => match o.dst, opdsOf P cap.toList [], first.size with
  | some d, some cap, 0 => some (.mkfn d f cap)
  | _, _, _ => none
 | .call c => match c.callee with
  | .value f => match opdOf P 0 f, opdsOf P c.args.toList c.argTypes.toList with
   | some f, some args => match isMut mu f with
    | true => some (.callr o.dst f args)
    | false => match isOwn mu f with
     | true => some (.callo o.dst f args)
     | false => match isMeth mu f with
      | true => some (.calls o.dst f args)
      | false => some (.call o.dst f args)
   | _, _ => none
  | .builtin .len => match o.dst, c.args.toList, c.argTypes.toList with
   | some d, [x], [t] => match opdOf P t x, P.underlying t with
    | some x, some .string => some (.len d true x)
    | some x, some (.slice _) => some (.len d false x)
    | some x, some (.map _ _) => some (.mop (.len t o.type) (some d) [x])
    | _, _ => none
   | _, _, _ => none
  | .builtin .delete => match c.args.toList, c.argTypes.toList with
   | [x, y], [t, k] => match opdsOf P [x, y] [t, k] with
    | some args => some (.mop (.del t k o.type) o.dst args)
    | none => none
   | _, _ => none
  | .builtin .max => match o.dst, c.args.toList with
   | some d, [x, y] => match opdOf P 0 x, opdOf P 0 y with
    | some x, some y => some (.mx d x y)
    | _, _ => none
   | _, _ => none
  | .builtin .append => match o.dst, c.args.toList, c.argTypes.toList with
   | some d, [x, y], [t, u] => match opdOf P t x, opdOf P t y, P.underlying t with
    | some x, some y, some (.slice e) => match P.info? e with
     | some inf => match inf.zero with
      | some z => if z.cells.all Value.oneCell' && Nat.beq t u && Nat.beq z.cells.size inf.size && Nat.ble 1 inf.size && Nat.ble 1 inf.bytes then (match memN (d + 4000000) mu with | true => some (.appr d inf.size inf.bytes x y) | false => some (.app d inf.size inf.bytes x y)) else none
      | none => none
     | none => none
    | _, _, _ => none
   | _, _, _ => none
  | _ => none
 | _ => none
def guardOf (ops : Array Oper) (o : Oper) : Option (Option (Nat × Bool)) :=
 match o.guard with
 | none => some none
 | some (j, b) => match (ops[j]?).bind (·.dst) with
  | some d => some (some (d, b))
  | none => none
def isGuard (ops : Array Oper) (k : Nat) : Bool := ops.any fun o => match o.guard with | some (j, _) => Nat.beq j k | none => false
def dstEq : Option Nat → Option Nat → Bool
 | none, none => true
 | some a, some b => Nat.beq a b
 | _, _ => false
def opsGI (P : Program) (mu : List Nat) (ops : Array Oper) : Nat → List Oper → Option (List GI)
 | _, [] => some []
 | k, o :: l => match guardOf ops o, opAI P mu (isGuard ops k) o, opsGI P mu ops (k + 1) l with
  | some g, some i, some r => match dstEq i.dst o.dst with
   | true => some (⟨g, i⟩ :: r)
   | false => none
  | _, _, _ => none
end Go.Proofs.YtgidajjjpeboeaaGreatDoor
/-
 The abstract walk: when a frame and a world are as an abstract frame and state say; what keeps that.
-/
namespace Go.Proofs.YtgidajjjpeboeaaGreatDoor
open Go.RowKit
structure Env where
 w0 : World
 n : Nat
 σ0 : Sg
 gw : GW w0
 /-- the named variables that it was handed -/
 B0 : Nat → Option Nat
 kgl : ∀ id b, B0 id = some b → ¬ isGl b
 /-- other blocks that were its own already -/
 Kx : Nat → Prop
 kgx : ∀ b, Kx b → ¬ isGl b
def Env.K0 (E : Env) (b : Nat) : Prop := (∃ id, E.B0 id = some b) ∨ E.Kx b
theorem Env.K0gl {E : Env} {b : Nat} (h : E.K0 b) : ¬ isGl b := by
 rcases h with ⟨id, h⟩ | h
 ·exact E.kgl id b h
 ·exact E.kgx b h
def Env.own (E : Env) (g : Nat) : Prop := E.w0.heap.size ≤ g ∨ E.K0 g
theorem Env.gwb {E : Env} {w : World} (h : BelowK E.K0 E.w0 w) : GW w := E.gw.belowK (fun b hb => E.K0gl hb) h
theorem Env.ownGl {E : Env} {b : Nat} (h : E.own b) : ¬ isGl b := fun hg => by
 rcases h with h | h
 ·have := E.gw.lt hg; omega
 ·exact E.K0gl h hg
theorem below_row {E : Env} {w : World} {g : Nat} {vs : Array Value} (h : BelowK E.K0 E.w0 w) (hg : E.own g) : BelowK E.K0 E.w0 (w.setRow g vs) := by
 refine h.trans (K' := fun b => b = g) ?_ ?_
 ·obtain ⟨h1, h2, h3, h4, _⟩ := below_setRow (Below.refl g w) (Nat.le_refl _) vs
  exact ⟨h1, h2, h3, h4, fun k _ hn => setRow_other w g k _ hn⟩
 ·rintro x rfl
  exact hg.symm
structure RowI where
 g : Nat
 n : Nat
 esz : Nat
 cap : Nat
structure FRow where
 g : Nat
 cap : Nat
 esz : Nat
 rows : List (List AV)
structure Gho where
 σ : Sg
 B : Nat → Option Nat
 ρ : Nat → Nat → Option RowI
 φ : Nat → Option FRow
def TagOk (G : Gho) (v : Value) (a : AV) : Prop :=
 match a with
 | .lst (.own s ver) esz l => (l.length = 0 ∧ ∃ A, v = .slice A l.length l.length) ∨ ∃ g cap, v = .slice (some ⟨g, 0, none⟩) l.length cap ∧ G.ρ s ver = some ⟨g, l.length, esz, cap⟩
 | .sli id _ n cap => 1000000 ≤ id ∧ n ≤ cap ∧ ∃ g, v = .slice (some ⟨g, 0, none⟩) n cap ∧ ∀ g', G.B id = some g' → g' = g
 | .frs k esz rows => ∃ g cap, G.φ k = some ⟨g, cap, esz, rows⟩ ∧ v = .slice (some ⟨g, 0, none⟩) rows.length cap
 | .np id off => 1000000 ≤ id ∧ ∃ g, v = npV id g off ∧ ∀ g', G.B id = some g' → g' = g
 | _ => True
def TagsOk (G : Gho) (vs : List Value) (cs : List AV) : Prop := ∀ (j : Nat) v a, vs[j]? = some v → cs[j]? = some a → TagOk G v a
def RelT (G : Gho) (v : Value) (a : AV) : Prop :=
 match a with
 | .np id off => Rel1 G.σ v .top ∧ TagOk G v (.np id off)
 | .sli id e n c => Rel1 G.σ v .top ∧ TagOk G v (.sli id e n c)
 | .frs k e r => Rel1 G.σ v .top ∧ TagOk G v (.frs k e r)
 | a => RelP G.σ v a
def RelS0 (G : Gho) (v : Value) (a : AV) : Prop :=
 match a with
 | .when _ _ => False
 | .agg cs => ∃ vs : List Value, v = .agg vs.toArray ∧ RelL G.σ vs (cs.map AV.unown) ∧ TagsOk G vs cs
 | .tup l => ∃ vs : List Value, v = .tuple vs.toArray ∧ vs.length = l.length ∧ ∀ (j : Nat) u x, vs[j]? = some u → l[j]? = some x → RelT G u x
 | .ptr id off => ∃ g, G.B id = some g ∧ v = .pointer (some ⟨g, off, none⟩) ∧ id < 900000
 | .pel id esz i k _ => 1000000 ≤ id ∧ ∃ g, v = .pointer (some ⟨g, i * esz + k, none⟩) ∧ ∀ g', G.B id = some g' → g' = g
 | a => Rel1 G.σ v a.unown ∧ TagOk G v a
def RelS (G : Gho) (v : Value) (a : AV) : Prop :=
 match a with
 | .when c a => (c = true → RelS0 G v a) ∧ (c = false → v = undef)
 | a => RelS0 G v a
structure Gho.le (G G' : Gho) : Prop where
 σ : G.σ.le G'.σ
 ρ : ∀ s v x, G.ρ s v = some x → G'.ρ s v = some x
 φ : ∀ k x, G.φ k = some x → G'.φ k = some x
 B : ∀ id g, 1000000 ≤ id → G'.B id = some g → G.B id = some g
theorem TagOk.mono {G G' : Gho} (h : G.le G') {v : Value} {a : AV} (ht : TagOk G v a) : TagOk G' v a := by
 unfold TagOk at ht ⊢
 split at ht
 ·rcases ht with ht | ⟨g, cap, h1, h2⟩
  ·exact .inl ht
  ·exact .inr ⟨g, cap, h1, h.ρ _ _ _ h2⟩
 ·obtain ⟨h0, h00, g, h1, h2⟩ := ht
  exact ⟨h0, h00, g, h1, fun g' hg => h2 g' (h.B _ _ h0 hg)⟩
 ·obtain ⟨g, cap, h1, h2⟩ := ht
  exact ⟨g, cap, h.φ _ _ h1, h2⟩
 ·obtain ⟨h0, g, h1, h2⟩ := ht
  exact ⟨h0, g, h1, fun g' hg => h2 g' (h.B _ _ h0 hg)⟩
 ·trivial
theorem TagsOk.mono {G G' : Gho} (h : G.le G') {vs : List Value} {cs : List AV} (ht : TagsOk G vs cs) : TagsOk G' vs cs :=
 fun j v a hv ha => (ht j v a hv ha).mono h
theorem RelT.mono {G G' : Gho} (h : G.le G') {v : Value} {a : AV} (ht : RelT G v a) : RelT G' v a := by
 cases a <;> simp only [RelT] at ht ⊢ <;> first
  | exact RelP.mono h.σ ht
  | exact ⟨ht.1.mono h.σ, ht.2.mono h⟩
theorem RelT.of {G : Gho} {v : Value} {a : AV} (h : RelP G.σ v a) : RelT G v a := by
 cases a <;> first
  | exact h
  | cases (h : Rel1 _ _ _)
theorem RelT.plain {G : Gho} {v : Value} {a : AV} (h : RelT G v a) (hn : (match a with | .np _ _ => false | .sli _ _ _ _ => false | .frs _ _ _ => false | _ => true) = true) : RelP G.σ v a := by
 cases a <;> first
  | exact h
  | cases hn
theorem RelS0.ofTup {G : Gho} {v : Value} {l : List AV} (h : RelR G.σ v (.tup l)) : RelS0 G v (.tup l) := by
 obtain ⟨vs, e, h1, h2⟩ := h
 exact ⟨vs, e, h1, fun j u x hu hx => .of (h2 j u x hu hx)⟩
theorem RelS0.mono {G G' : Gho} (h : G.le G') {v : Value} {a : AV} (hB : ∀ id off g, a = .ptr id off → G.B id = some g → G'.B id = some g) (hr : RelS0 G v a) : RelS0 G' v a := by
 cases a <;> simp only [RelS0] at hr ⊢ <;> first
  | exact ⟨hr.1.mono h.σ, hr.2.mono h⟩
  | (obtain ⟨vs, rfl, h1, h2⟩ := hr; exact ⟨vs, rfl, h1, fun j u x hu hx => (h2 j u x hu hx).mono h⟩)
  | (obtain ⟨vs, rfl, h1, h2⟩ := hr; exact ⟨vs, rfl, h1.mono h.σ, h2.mono h⟩)
  | (obtain ⟨h0, g, h1, h2⟩ := hr; exact ⟨h0, g, h1, fun g' hg => h2 g' (h.B _ _ h0 hg)⟩)
  | (obtain ⟨g, h1, h2⟩ := hr; exact ⟨g, hB _ _ _ rfl h1, h2⟩)
theorem RelS.mono {G G' : Gho} (h : G.le G') {v : Value} {a : AV} (hB : ∀ id off g, (a = .ptr id off ∨ ∃ c, a = .when c (.ptr id off)) → G.B id = some g → G'.B id = some g) (hr : RelS G v a) : RelS G' v a := by
 cases a <;> first
  | exact RelS0.mono h (fun id off g e hg => hB id off g (.inl e) hg) hr
  | exact ⟨fun hc => RelS0.mono h (fun id off g e hg => hB id off g (.inr ⟨_, by rw [e]⟩) hg) (hr.1 hc), hr.2⟩
theorem RelS0.mono2 {G G' : Gho} (h : G.le G') {v : Value} {a : AV} (hB : ∀ id g, id < 1000000 → G.B id = some g → G'.B id = some g) (hr : RelS0 G v a) : RelS0 G' v a := by
 cases a with
 | ptr id off => obtain ⟨g, h1, h2, h3⟩ := hr; exact ⟨g, hB _ _ (by omega) h1, h2, h3⟩
 | _ => exact hr.mono h (fun id off g e => by cases e)
theorem RelS.mono2 {G G' : Gho} (h : G.le G') {v : Value} {a : AV} (hB : ∀ id g, id < 1000000 → G.B id = some g → G'.B id = some g) (hr : RelS G v a) : RelS G' v a := by
 cases a <;> simp only [RelS] at hr ⊢ <;> first
  | exact RelS0.mono2 h hB hr
  | exact ⟨fun hc => RelS0.mono2 h hB (hr.1 hc), hr.2⟩
def BoxAt (E : Env) (G : Gho) (w : World) (id g : Nat) (cs : List AV) (fz : Bool) : Prop :=
 E.own g ∧ ∃ t vs, HeapAt w g id t vs ∧ RelL G.σ vs.toList (cs.map AV.unown) ∧ TagsOk G vs.toList cs ∧
  (if fz then ∀ (j : Nat) v, vs[j]? = some v → G.σ g j = some v else ∀ j, G.σ g j = none)
def RowAt (E : Env) (G : Gho) (w : World) (r : RowI) : Prop :=
 E.own r.g ∧ ∃ e cur, w.heap[r.g]? = some (.cells cur e (0, 0)) ∧ r.n ≤ r.cap ∧ (cur.size = r.cap * r.esz ∧ ∀ u ∈ cur.toList, u.oneCell' = true) ∧ ∀ j, r.n * r.esz ≤ j → G.σ r.g j = none
def FRowAt (E : Env) (G : Gho) (w : World) (x : FRow) : Prop := E.own x.g ∧ FRowW G.σ w x.g x.cap x.esz x.rows
theorem FRowW.on {σ σ' : Sg} {w w' : World} {g cap esz : Nat} {rows : List (List AV)} (h : FRowW σ w g cap esz rows) (hle : σ.le σ') (hw : w'.heap[g]? = w.heap[g]?) (hn : ∀ j, σ' g j = none) : FRowW σ' w' g cap esz rows := by
 obtain ⟨e, cur, h1, h2, h3, h4, h5, h6, _⟩ := h
 exact ⟨e, cur, by rw [hw]; exact h1, h2, h3, h4, h5.mono hle, h6, hn⟩
theorem FRowW.free {σ : Sg} {w : World} {g cap esz : Nat} {rows : List (List AV)} (h : FRowW σ w g cap esz rows) : ∀ j, σ g j = none := by
 obtain ⟨e, cur, h1, h2, h3, h4, h5, h6, h7⟩ := h
 exact h7
theorem FRowW.lt {σ : Sg} {w : World} {g cap esz : Nat} {rows : List (List AV)} (h : FRowW σ w g cap esz rows) : g < w.heap.size := by
 obtain ⟨e, cur, h1, _⟩ := h
 exact (Array.getElem?_eq_some_iff.1 h1).1
structure Conc (E : Env) (G : Gho) (fr : Fr) (st : St) (a : Act) (w : World) : Prop where
 defers : a.defers = []
 size : a.tmps.size = E.n
 slots : ∀ s x, fr s = some x → RelS G (a.tmps.getD s undef) x
 hold : Holds G.σ w
 ext : ExtK E.K0 E.σ0 G.σ E.w0.heap.size
 below : BelowK E.K0 E.w0 w
 box : ∀ id cs fz, st.box id = some (cs, fz) → ∃ g, G.B id = some g ∧ BoxAt E G w id g cs fz
 bnone : ∀ id, st.box id = none → G.B id = none
 binj : ∀ id id' g, G.B id = some g → G.B id' = some g → id = id'
 row : ∀ s r, G.ρ s (st.row s) = some r → RowAt E G w r ∧ ∀ id, G.B id ≠ some r.g
 rinj : ∀ s s' r r', G.ρ s (st.row s) = some r → G.ρ s' (st.row s') = some r' → r.g = r'.g → s = s'
 rlt : ∀ s v x, G.ρ s v = some x → v ≤ st.row s
 phi : ∀ k x, G.φ k = some x → FRowAt E G w x ∧ (∀ id, G.B id ≠ some x.g) ∧ ∀ s r, G.ρ s (st.row s) = some r → r.g ≠ x.g
 phinj : ∀ k k' x x', G.φ k = some x → G.φ k' = some x' → x.g = x'.g → k = k'
 pnone : ∀ k, fr k = none → G.φ k = none
 small : E.n ≤ 900000
 keep : ∀ id g, 2000000 ≤ id → G.B id = some g → E.B0 id = some g
section
variable {E : Env} {G G' : Gho} {fr : Fr} {st : St} {a : Act} {w w' : World}
theorem getD_put (a : Act) {d : Nat} (v : Value) (s : Nat) (hd : d < a.tmps.size) : (a.put (some d) v).tmps.getD s undef = if s = d then v else a.tmps.getD s undef := by
 unfold Act.put
 simp only [Array.getD_eq_getD_getElem?, Array.getElem?_setIfInBounds]
 by_cases h : d = s
 ·subst h; simp [hd]
 ·rw [if_neg h, if_neg (fun e => h e.symm)]
theorem size_put (a : Act) (d : Option Nat) (v : Value) : (a.put d v).tmps.size = a.tmps.size := by cases d <;> simp [Act.put]
theorem defers_put (a : Act) (d : Option Nat) (v : Value) : (a.put d v).defers = a.defers := by cases d <;> rfl
theorem Conc.put (h : Conc E G fr st a w) {d : Nat} (hd : d < E.n) {v : Value} {x : AV} (hx : RelS G v x) : Conc E G (put1 fr d x) st (a.put (some d) v) w :=
 { h with
   defers := by rw [defers_put]; exact h.defers
   size := by rw [size_put]; exact h.size
   slots := fun s y hs => by
    rw [getD_put a v s (by rw [h.size]; exact hd)]
    unfold put1 at hs
    rw [upd_at] at hs
    by_cases hsd : s = d
    ·rw [if_pos hsd] at hs ⊢; cases hs; exact hx
    ·rw [if_neg hsd] at hs ⊢; exact h.slots s y hs
   pnone := fun k hk => h.pnone k (by
    unfold put1 at hk
    rw [upd_at] at hk
    split at hk
    ·cases hk
    ·exact hk) }
theorem Conc.putW (h : Conc E G fr st a w) {d : Nat} (hd : d < E.n) {v : Value} {c : Bool} {x : AV} (hx : (c = true → RelS0 G v x) ∧ (c = false → v = undef)) : Conc E G (upd fr d (some (.when c x))) st (a.put (some d) v) w := h.put hd (x := .when c x) hx
theorem lt_of_heap {w : World} {g : Nat} {o : Obj} (h : w.heap[g]? = some o) : g < w.heap.size := (Array.getElem?_eq_some_iff.1 h).1
theorem Conc.lt (h : Conc E G fr st a w) : E.w0.heap.size ≤ w.heap.size := h.below.size
theorem Conc.world (h : Conc E G fr st a w) (hb : Below w.heap.size w w') {σ' : Sg} (hx : Ext G.σ σ' w.heap.size) (hh : Holds σ' w') : Conc E { G with σ := σ' } fr st a w' :=
 have hle : G.le { G with σ := σ' } := ⟨hx.1, fun _ _ _ h => h, fun _ _ h => h, fun _ _ _ h => h⟩
 { defers := h.defers
   size := h.size
   slots := fun s x hs => (h.slots s x hs).mono hle fun _ _ _ _ hg => hg
   hold := hh
   ext := h.ext.trans (hx.toK fun _ => False) h.lt (fun _ h => False.elim h)
   below := h.below.trans (BelowK.of hb fun _ => False) (fun _ h => False.elim h)
   box := fun id cs fz hs => by
    obtain ⟨g, h1, h2, t, vs, h3, h4, h5, h6⟩ := h.box id cs fz hs
    have hg := h3.lt
    refine ⟨g, h1, h2, t, vs, h3.of (hb.block g hg), h4.mono hx.1, h5.mono hle, ?_⟩
    cases fz with
    | true => exact fun j v hv => hx.1 _ _ _ (h6 j v hv)
    | false => exact fun j => by rw [show ({ G with σ := σ' } : Gho).σ g j = σ' g j from rfl, hx.2 g j hg]; exact h6 j
   bnone := h.bnone
   binj := h.binj
   row := fun s r hs => by
    obtain ⟨⟨h1, e, cur, h3, h4, h5, h8⟩, h9⟩ := h.row s r hs
    have hg := lt_of_heap h3
    exact ⟨⟨h1, e, cur, by rw [hb.block r.g hg]; exact h3, h4, h5, fun j hj => by rw [show ({ G with σ := σ' } : Gho).σ r.g j = σ' r.g j from rfl, hx.2 r.g j hg]; exact h8 j hj⟩, h9⟩
   rinj := h.rinj
   rlt := h.rlt
   phi := fun k x hk => by
    obtain ⟨⟨h1, h2⟩, h3, h4⟩ := h.phi k x hk
    have hg := h2.lt
    exact ⟨⟨h1, h2.on hx.1 (hb.block _ hg) fun j => by rw [show ({ G with σ := σ' } : Gho).σ x.g j = σ' x.g j from rfl, hx.2 x.g j hg]; exact h2.free j⟩, h3, h4⟩
   phinj := h.phinj
   pnone := h.pnone
   small := h.small
   keep := h.keep }
theorem Conc.same (h : Conc E G fr st a w) (hb : Below w.heap.size w w') : Conc E G fr st a w' :=
 h.world hb (Ext.refl _ _) fun b o v hv => by
  have := h.hold b o v hv
  have hlt := World.block_lt_of_cell? w _ this
  exact (hb.cell (p := ⟨b, o, none⟩) hlt).trans this
theorem RelS.of1 {v : Value} {c : AV} (h : Rel1 G.σ v c) : RelS G v c := by
 have hu := h.unown
 have ht : TagOk G v c := by
  cases c <;> try trivial
  rename_i t esz l
  cases t <;> first | trivial | cases hu
 have h' : Rel1 G.σ v c.unown := by rw [hu]; exact h
 cases c <;> simp only [RelS, RelS0] <;> first
  | exact ⟨h', ht⟩
  | cases h
theorem RelS.mk1 {v : Value} {c : AV} (h : Rel1 G.σ v c.unown) (ht : TagOk G v c) : RelS G v c := by
 cases c <;> simp only [RelS, RelS0] <;> first
  | exact ⟨h, ht⟩
  | cases h
theorem RelL.map_unown {σ : Sg} {vs : List Value} {cs : List AV} (h : RelL σ vs cs) : cs.map AV.unown = cs := by
 apply List.ext_getElem?
 intro j
 rw [List.getElem?_map]
 cases hc : cs[j]? with
 | none => rfl
 | some c =>
  obtain ⟨v, _, hr⟩ := h.at_ hc
  simp [hr.unown]
theorem RelL.tags {σ : Sg} {G : Gho} {vs : List Value} {cs : List AV} (h : RelL σ vs cs) : TagsOk G vs cs := by
 intro j v c hv hc
 have hu := (h.2 j v c hv hc).unown
 cases c <;> try trivial
 rename_i t esz l
 cases t <;> first | trivial | cases hu
theorem const_rel {P : Program} {t : TypeId} {v : Value} {c : AV} (h : constAV P t v = some c) (G : Gho) : RelS G v c := by
 unfold constAV at h
 split at h <;> first
  | (cases h; exact ⟨.int _ _, trivial⟩)
  | (cases h; exact ⟨.bool _, trivial⟩)
  | (cases h; exact ⟨.str _, trivial⟩)
  | (cases h; exact ⟨.raw _ rfl, trivial⟩)
  | (split at h <;> cases h <;> exact ⟨.lst .nil _ [] none 0 0 0 0 (fun _ _ => undef) rfl (Nat.le_refl _) (fun h => absurd h (by simp)) (fun i c h => by simp at h) (fun i j h => by omega) (fun i j c a h => by simp at h) ⟨rfl, rfl, rfl⟩, trivial⟩)
  | cases h
theorem Conc.ev (h : Conc E G fr st a w) {P : Program} {t : TypeId} {x : Operand} {y : Opd} (hy : opdOf P t x = some y) {c : AV} (hc : y.ev fr = some c) : RelS G (a.eval x) c := by
 cases x with
 | tmp n => cases hy; exact h.slots n c hc
 | const v =>
  change (constAV P t v).map Opd.k = some y at hy
  cases hk : constAV P t v with
  | none => rw [hk] at hy; cases hy
  | some k =>
   rw [hk] at hy
   cases hy
   cases hc
   exact const_rel hk G
 | func f =>
  cases hy
  cases hc
  exact ⟨.fn f [] [] rfl (fun _ => undef) (fun j v h => by simp at h) (fun j a h => by simp at h), trivial⟩
 | global g => cases hy
theorem RelS.int {v : Value} {k : IntKind} {n : Int} (h : RelS G v (.int k n)) : v = .int k n := by have := (h.1 : Rel1 G.σ v (.int k n)); cases this; rfl
theorem RelS.bool {v : Value} {b : Bool} (h : RelS G v (.bool b)) : v = .bool b := by have := (h.1 : Rel1 G.σ v (.bool b)); cases this; rfl
theorem RelS.str {v : Value} {s : ByteArray} (h : RelS G v (.str s)) : v = .string s := by have := (h.1 : Rel1 G.σ v (.str s)); cases this; rfl
theorem RelS.raw {v u : Value} (h : RelS G v (.raw u)) : v = u := by have := (h.1 : Rel1 G.σ v (.raw u)); cases this; rfl
theorem RelS.cells {v : Value} {x : AV} {cs : List AV} (h : RelS G v x) (hc : x.vcells = some cs) : RelL G.σ v.cells.toList (cs.map AV.unown) ∧ TagsOk G v.cells.toList cs := by
 have single : ∀ x : AV, Rel1 G.σ v x.unown ∧ TagOk G v x → RelL G.σ v.cells.toList ([x].map AV.unown) ∧ TagsOk G v.cells.toList [x] := by
  intro x hx
  have h1 := hx.1.one
  have h2 : v.cells = #[v] := by cases v <;> first | rfl | (simp [Value.oneCell'] at h1)
  rw [h2]
  refine ⟨.cons hx.1 .nil, fun j u y hu hy => ?_⟩
  cases j with
  | zero => simp at hu hy; subst hu hy; exact hx.2
  | succ j => simp at hu
 cases x <;> simp only [AV.vcells] at hc <;> first
  | (cases hc; exact single _ h)
  | (cases hc; obtain ⟨vs, rfl, h1, h2⟩ := h; exact ⟨by simpa [Value.cells] using h1, by simpa [Value.cells] using h2⟩)
  | cases hc
theorem RelS.arg {v : Value} {x y : AV} (h : RelS G v x) (hy : x.arg = some y) : RelP G.σ v y := by
 cases x <;> simp only [AV.arg] at hy <;> first
  | (cases hy; have := h.1.plain; rw [plain_unown] at this; exact this)
  | (cases hy; obtain ⟨vs, rfl, h1, h2⟩ := h; refine ⟨vs, rfl, ?_⟩; have := h1.plain; rw [List.map_map] at this; have e : (AV.plain ∘ AV.unown) = AV.plain := funext plain_unown; rw [e] at this; exact this)
  | cases hy
end
end Go.Proofs.YtgidajjjpeboeaaGreatDoor
