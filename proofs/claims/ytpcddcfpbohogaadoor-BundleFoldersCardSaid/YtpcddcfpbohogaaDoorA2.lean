/-
  The abstract walk: instructions, what each does to abstract values, and how a function's operations are turned into them.
-/
import Derived.Test.YtpcddcfpbohogaaDoorA1
namespace Go.Proofs.YtpcddcfpbohogaaDoor
set_option linter.unusedSimpArgs false
set_option linter.unusedVariables false
open Go.RowKit

inductive Opd where
  | s (n : Nat)
  | k (a : AV)
inductive AI where
  | mov (d : Nat) (x : Opd)
  | pick (d : Nat) (c a b : Opd)
  | box (d : Nat) (x : Opd)
  | alloc (d : Nat) (z : List AV)
  | ld (d n : Nat) (agg : Bool) (p : Opd)
  | st (n : Nat) (p x : Opd)
  | off (d k : Nat) (p : Opd)
  | idx (d esz : Nat) (x i : Opd)
  | bin (d : Nat) (op : BinOp) (bt : Bool) (x y : Opd)
  | un (d : Nat) (op : UnOp) (x : Opd)
  | build (d : Nat) (z : List AV) (ps : List (Nat × Nat × Opd))
  | bsl (d n esz : Nat) (z : List AV) (ps : List (Nat × Nat × Opd))
  | len (d : Nat) (s : Bool) (x : Opd)
  | app (d esz bytes : Nat) (x y : Opd)
  | ext (d i : Nat) (x : Opd)
  | call (d : Option Nat) (f : Opd) (args : List Opd)
  /-- a call that may write into its first argument's row -/
  | callr (d : Option Nat) (f : Opd) (args : List Opd)
  /-- a call whose result may be appended to -/
  | callo (d : Option Nat) (f : Opd) (args : List Opd)
  | sub (d : Nat) (s : Bool) (esz : Nat) (x : Opd) (lo hi : Option Opd)
  | bidx (d : Nat) (x i : Opd)
  | conv (d : Nat) (k : IntKind) (x : Opd)
  | mkfn (d f : Nat) (cap : List Opd)
  | eqs (d : Nat) (neg : Bool) (t : TypeId) (x y : Opd)
/-- an instruction, and the slot by whose Boolean it is guarded -/
structure GI where
  g : Option (Nat × Bool)
  i : AI
/-- what the prover names: a value, an element's cells -/
inductive RS where
  | v (a : AV)
  | c (cs : List AV)
  /-- a slice made anew -/
  | f (esz : Nat) (rows : List (List AV))
  /-- a slice made anew, that may be appended to -/
  | o (esz : Nat) (rows : List (List AV))
  /-- the first argument's row is taken over; what comes back is anew -/
  | m (rows rows' : List (List AV))
  /-- the first argument is nil; what comes back is anew -/
  | n (esz : Nat) (rows : List (List AV))
  /-- the first argument's row is read -/
  | b (rows : List (List AV)) (r : AV)
structure St where
  box : Nat → Option (List AV × Bool)
  row : Nat → Nat
abbrev Fr := Nat → Option AV
def upd {α : Type} (f : Nat → α) (i : Nat) (v : α) : Nat → α := fun j => bif Nat.beq j i then v else f j
theorem upd_same {α : Type} (f : Nat → α) (i : Nat) (v : α) : upd f i v i = v := by simp [upd]
theorem nbeq_ne {i j : Nat} (h : j ≠ i) : Nat.beq j i = false := by
  cases hb : Nat.beq j i with
  | false => rfl
  | true => exact absurd (Nat.eq_of_beq_eq_true hb) h
theorem upd_ne {α : Type} (f : Nat → α) {i j : Nat} (v : α) (h : j ≠ i) : upd f i v j = f j := by simp [upd, nbeq_ne h]
theorem upd_at {α : Type} (f : Nat → α) (i j : Nat) (v : α) : upd f i v j = if j = i then v else f j := by
  by_cases h : j = i
  · subst h; simp [upd]
  · rw [upd_ne f v h, if_neg h]
def Opd.ev (fr : Fr) : Opd → Option AV
  | .s n => fr n
  | .k a => some a
def evs (fr : Fr) : List Opd → Option (List AV)
  | [] => some []
  | x :: l => match x.ev fr, evs fr l with
    | some a, some as => some (a :: as)
    | _, _ => none
/-- the cells of a value that may lie in memory -/
def AV.vcells : AV → Option (List AV)
  | .agg cs => some cs
  | .tup _ => none
  | .ptr _ _ => none
  | .when _ _ => none
  | .pel _ _ _ _ _ => none
  | a => some [a]
def AV.arg : AV → Option AV
  | .agg cs => some (.agg (cs.map AV.plain))
  | .tup _ => none
  | .ptr _ _ => none
  | .when _ _ => none
  | .pel _ _ _ _ _ => none
  | .sli _ _ _ _ => none
  | .frs _ _ _ => none
  | a => some a.plain
def argsOf : List AV → Option (List AV)
  | [] => some []
  | a :: l => match a.arg, argsOf l with
    | some x, some xs => some (x :: xs)
    | _, _ => none
def takeN : Nat → List AV → Option (List AV)
  | 0, _ => some []
  | n + 1, a :: l => match takeN n l with
    | some r => some (a :: r)
    | none => none
  | _ + 1, [] => none
def dropN : Nat → List AV → Option (List AV)
  | 0, l => some l
  | n + 1, _ :: l => dropN n l
  | _ + 1, [] => none
/-- new cells laid over old ones, from a place on -/
def splice : Nat → List AV → List AV → Option (List AV)
  | _, [], l => some l
  | 0, x :: xs, _ :: l => match splice 0 xs l with
    | some r => some (x :: r)
    | none => none
  | n + 1, x :: xs, a :: l => match splice n (x :: xs) l with
    | some r => some (a :: r)
    | none => none
  | _, _ :: _, [] => none
def afill (fr : Fr) : List AV → List (Nat × Nat × Opd) → Option (List AV)
  | cells, [] => some cells
  | cells, (off, size, x) :: ps => match x.ev fr with
    | some a => match a.vcells with
      | some cs => match Nat.beq cs.length size with
        | true => match splice off cs cells with
          | some cells' => afill fr cells' ps
          | none => none
        | false => none
      | none => none
    | none => none
/-- n rows of so many cells -/
def chunk (esz : Nat) : Nat → List AV → Option (List (List AV))
  | 0, [] => some []
  | 0, _ :: _ => none
  | n + 1, l => match takeN esz l, dropN esz l with
    | some c, some l' => match chunk esz n l' with
      | some r => some (c.map AV.plain :: r)
      | none => none
    | _, _ => none
def getN : Nat → List AV → Option AV
  | 0, a :: _ => some a
  | n + 1, _ :: l => getN n l
  | _, [] => none
def intBin (op : BinOp) (k : IntKind) (a b : Int) : Option (AV × Prop) :=
  match op with
  | .add => some (.int k (k.wrap (a + b)), True)
  | .sub => some (.int k (k.wrap (a - b)), True)
  | .mul => some (.int k (k.wrap (a * b)), True)
  | .quo => some (.int k (k.wrap (a.tdiv b)), b ≠ 0)
  | .rem => some (.int k (a.tmod b), b ≠ 0)
  | .and => some (.int k (bits .and k a b), True)
  | .or => some (.int k (bits .or k a b), True)
  | .xor => some (.int k (bits .xor k a b), True)
  | .eql => some (.bool (decide (a = b)), True)
  | .neq => some (.bool (!decide (a = b)), True)
  | .lss => some (.bool (decide (a < b)), True)
  | .leq => some (.bool (decide (a ≤ b)), True)
  | .gtr => some (.bool (decide (a > b)), True)
  | .geq => some (.bool (decide (a ≥ b)), True)
  | _ => none
def strBin (op : BinOp) (a b : ByteArray) : Option (AV × Prop) :=
  match op with
  | .add => some (.str (a ++ b), ((a.size + b.size : Nat) : Int) ≤ 9223372036854775807)
  | .eql => some (.bool (decide (a = b)), True)
  | .neq => some (.bool (!decide (a = b)), True)
  | .lss => some (.bool (Op.bytesLess a.toList b.toList), True)
  | .leq => some (.bool (!Op.bytesLess b.toList a.toList), True)
  | .gtr => some (.bool (Op.bytesLess b.toList a.toList), True)
  | .geq => some (.bool (!Op.bytesLess a.toList b.toList), True)
  | _ => none
def boolBin (op : BinOp) (a b : Bool) : Option (AV × Prop) :=
  match op with
  | .eql => some (.bool (a == b), True)
  | .neq => some (.bool (a != b), True)
  | _ => none
def kindEq (k k' : IntKind) : Bool := Nat.beq k.ctorIdx k'.ctorIdx
def binAV (op : BinOp) (bt : Bool) : AV → AV → Option (AV × Prop)
  | .int k a, .int k' b => match op with
    | .shl => some (.int k (k.wrap (a * 2 ^ (min b.toNat k.bits))), 0 ≤ b)
    | .shr => some (.int k (a.fdiv (2 ^ (min b.toNat k.bits))), 0 ≤ b)
    | op => match kindEq k k' with
      | true => intBin op k a b
      | false => none
  | .str a, .str b => strBin op a b
  | .bool a, .bool b => match bt with
    | true => boolBin op a b
    | false => none
  | _, _ => none
def unAV (op : UnOp) : AV → Option AV
  | .bool b => match op with
    | .not => some (.bool (!b))
    | _ => none
  | .int k a => match op with
    | .neg => some (.int k (k.wrap (0 - a)))
    | _ => none
  | _ => none
/-- a slice that may be appended to -/
def OwnTag (st : St) (t : Tag) : Prop :=
  match t with
  | .own s v => st.row s = v
  | .any => False
  | _ => True
def appTag (st : St) (d : Nat) (t : Tag) : Tag :=
  match t with
  | .own s v => .own s (v + 1)
  | _ => .own d (st.row d + 1)
def appRow (st : St) (d : Nat) (t : Tag) : Nat → Nat :=
  match t with
  | .own s v => upd st.row s (v + 1)
  | _ => upd st.row d (st.row d + 1)
def lstEsz (t : Tag) (esz' esz : Nat) : Prop :=
  match t with
  | .nil => True
  | _ => esz' = esz
/-- the cells that a closure has taken in stay as they are -/
def freeze (st : St) (fr : Fr) : List Opd → Option (List AV × St)
  | [] => some ([], st)
  | x :: l => match x.ev fr with
    | some (.ptr id off) => match st.box id with
      | some (cs, _) => match dropN off cs with
        | some cs' => match freeze { st with box := upd st.box id (some (cs, true)) } fr l with
          | some (r, st') => some (.ro (cs'.map AV.plain) :: r, st')
          | none => none
        | none => none
      | none => none
    | some (.agg _) => none
    | some (.tup _) => none
    | some (.when _ _) => none
    | some (.pel _ _ _ _ _) => none
    | some (.sli _ _ _ _) => none
    | some (.frs _ _ _) => none
    | some a => match freeze st fr l with
      | some (r, st') => some (a.plain :: r, st')
      | none => none
    | none => none
def intOfOpt (fr : Fr) (dflt : Int) : Option Opd → Option Int
  | none => some dflt
  | some x => match x.ev fr with
    | some (.int _ n) => some n
    | _ => none

def put1 (fr : Fr) (d : Nat) (a : AV) : Fr := upd fr d (some a)

/-- a plain cell's value -/
def pcell : AV → Option Value
  | .int k n => some (.int k n)
  | .bool b => some (.bool b)
  | .str s => some (.string s)
  | _ => none
def pcells : List AV → Option (List Value)
  | [] => some []
  | a :: l => match pcell a, pcells l with
    | some v, some vs => some (v :: vs)
    | _, _ => none
def eqCells : List AV → List AV → Bool
  | [], [] => true
  | .str a :: l, .str b :: m => decide (a = b) && eqCells l m
  | .int _ a :: l, .int _ b :: m => decide (a = b) && eqCells l m
  | .bool a :: l, .bool b :: m => (a == b) && eqCells l m
  | _, _ => false
def eqOp : Bool → BinOp
  | true => .neq
  | false => .eql
/-- the comparison of two structs of plain cells runs -/
def EqRun (P : Program) (neg : Bool) (t : TypeId) (us vs : List Value) (r : Bool) : Prop :=
  ∀ (w : World) (x y : Operand), (eqGuard (eqOp neg) t x y (.agg us.toArray) (.agg vs.toArray)).run P w = .ok () w ∧ (binOp (eqOp neg) t (.agg us.toArray) (.agg vs.toArray)).run P w = .ok (.bool (match neg with | true => !r | false => r)) w

/-- is it nil? -/
def nilQ : Value → Option Bool
  | .nilIface => some true
  | .iface _ _ => some false
  | .pointer none => some true
  | .pointer (some _) => some false
  | _ => none
def isC : Operand → Bool
  | .const _ => true
  | _ => false
def Opd.isK : Opd → Bool
  | .k _ => true
  | .s _ => false
/-- the comparison of two values, one of them a literal nil, runs -/
def NilRun (P : Program) (neg : Bool) (t : TypeId) (u v : Value) (r : Bool) : Prop :=
  ∀ (w : World) (x y : Operand), (isC x || isC y) = true → (eqGuard (eqOp neg) t x y u v).run P w = .ok () w ∧ (binOp (eqOp neg) t u v).run P w = .ok (.bool (match neg with | true => !r | false => r)) w

/-- a row in a block of its own: its cells read as rows; nothing is said of it in the store -/
def FRowW (σ : Sg) (w : World) (g cap esz : Nat) (rows : List (List AV)) : Prop :=
  ∃ e cur, w.heap[g]? = some (.cells cur e (0, 0)) ∧ cur.size = cap * esz ∧ rows.length ≤ cap ∧ (∀ c ∈ rows, c.length = esz) ∧ RelL σ (cur.toList.take (rows.length * esz)) rows.flatten ∧ (∀ u ∈ cur.toList, u.oneCell' = true) ∧ ∀ j, σ g j = none
/-- nothing but block g has turned -/
structure BelowBut (g : Nat) (w w' : World) : Prop where
  os : w'.os = w.os
  tape : w'.tape = w.tape
  output : w'.output = w.output
  size : w.heap.size ≤ w'.heap.size
  block : ∀ k, k < w.heap.size → k ≠ g → w'.heap[k]? = w.heap[k]?
/-- A CONTRACT whose result is a slice made anew, not empty. -/
structure MF (P : Program) (f : FuncId) (args : List AV) (esz : Nat) (rows : List (List AV)) : Prop where
  cb : callable P f = true
  run : ∀ (σ : Sg) (w : World) (vs : List Value), Holds σ w → RelPs σ vs args → GW w →
    Calls P f vs.toArray w fun e w' => ∃ σ' g cap, e = .returned (.slice (some ⟨g, 0, none⟩) rows.length cap) ∧ Ext σ σ' w.heap.size ∧ Holds σ' w' ∧ Below w.heap.size w w' ∧ w.heap.size ≤ g ∧ FRowW σ' w' g cap esz rows
/-- A CONTRACT that takes over the row of its first argument. -/
structure MR (P : Program) (f : FuncId) (esz : Nat) (rows : List (List AV)) (args : List AV) (rows' : List (List AV)) : Prop where
  cb : callable P f = true
  run : ∀ (σ : Sg) (w : World) (g cap : Nat) (vs : List Value), Holds σ w → FRowW σ w g cap esz rows → RelPs σ vs args → GW w →
    Calls P f (.slice (some ⟨g, 0, none⟩) rows.length cap :: vs).toArray w fun e w' => ∃ σ' g' cap', e = .returned (.slice (some ⟨g', 0, none⟩) rows'.length cap') ∧ Ext σ σ' w.heap.size ∧ Holds σ' w' ∧ BelowBut g w w' ∧ (g' = g ∨ w.heap.size ≤ g') ∧ FRowW σ' w' g' cap' esz rows'
/-- A CONTRACT whose first argument is nil, and whose result is a slice made anew. -/
structure MN (P : Program) (f : FuncId) (args : List AV) (esz : Nat) (rows : List (List AV)) : Prop where
  cb : callable P f = true
  run : ∀ (σ : Sg) (w : World) (vs : List Value), Holds σ w → RelPs σ vs args → GW w →
    Calls P f (.slice none 0 0 :: vs).toArray w fun e w' => ∃ σ' g cap, e = .returned (.slice (some ⟨g, 0, none⟩) rows.length cap) ∧ Ext σ σ' w.heap.size ∧ Holds σ' w' ∧ Below w.heap.size w w' ∧ w.heap.size ≤ g ∧ FRowW σ' w' g cap esz rows
/-- rows of so many cells, without tags -/
def RowsOk (esz : Nat) (rows : List (List AV)) : Prop := 0 < esz ∧ ∀ c ∈ rows, c.length = esz ∧ c.map AV.unown = c
/-- what needs no memory -/
def AV.flat1 : AV → Bool
  | .int _ _ | .bool _ | .str _ => true
  | _ => false
def AV.flat : AV → Bool
  | .tup l => l.all AV.flat1
  | a => a.flat1

/-- one instruction, with what the prover names for it -/
def astep (P : Program) (i : AI) (rs : Option RS) (fr : Fr) (st : St) : Option (Fr × St × Prop) :=
  match i with
  | .mov d x => match x.ev fr with
    | some a => some (put1 fr d a, st, True)
    | none => none
  | .pick d c a b => match c.ev fr with
    | some (.bool cb) => match a with
      | .k (.bool true) => match b.ev fr with
        | some (.when g (.bool e)) => some (put1 fr d (.bool (cb || e)), st, cb = false → g = true)
        | some (.bool e) => some (put1 fr d (.bool (cb || e)), st, True)
        | _ => none
      | a => match b with
        | .k (.bool false) => match a.ev fr with
          | some (.when g (.bool e)) => some (put1 fr d (.bool (cb && e)), st, cb = true → g = true)
          | some (.bool e) => some (put1 fr d (.bool (cb && e)), st, True)
          | _ => none
        | _ => none
    | _ => none
  | .box d x => match x.ev fr, st.box d with
    | some a, none => match a.vcells with
      | some cs => some (put1 fr d (.ptr d 0), { st with box := upd st.box d (some (cs, false)) }, True)
      | none => none
    | _, _ => none
  | .alloc d z => match st.box d with
    | none => some (put1 fr d (.ptr d 0), { st with box := upd st.box d (some (z, false)) }, True)
    | some _ => none
  | .ld d n agg p => match p.ev fr with
    | some (.ptr id off) => match st.box id with
      | some (cs, _) => match dropN off cs with
        | some cs => match agg with
          | true => match takeN n cs with
            | some cs => some (put1 fr d (.agg cs), st, True)
            | none => none
          | false => match getN 0 cs with
            | some a => some (put1 fr d a, st, True)
            | none => none
        | none => none
      | none => none
    | some (.ro cs) => match agg with
      | true => match takeN n cs with
        | some cs => some (put1 fr d (.agg cs), st, True)
        | none => none
      | false => match getN 0 cs with
        | some a => some (put1 fr d a, st, True)
        | none => none
    | some (.pel id esz i k c) => match st.box id with
      | some (cs, _) => match dropN k c with
        | some c' => match agg with
          | true => match takeN n c' with
            | some c' => some (put1 fr d (.agg c'), st, c.length = esz ∧ (cs.drop (i * esz)).take esz = c)
            | none => none
          | false => match getN 0 c' with
            | some a => some (put1 fr d a, st, c.length = esz ∧ (cs.drop (i * esz)).take esz = c)
            | none => none
        | none => none
      | none => none
    | _ => none
  | .st n p x => match p.ev fr, x.ev fr with
    | some (.pel id esz i k c), some a => match a.vcells, st.box id with
      | some xs, some (cs, false) => match Nat.beq xs.length n, splice k xs c with
        | true, some c' => some (fr, { st with box := upd st.box id (some (cs.take (i * esz) ++ c' ++ cs.drop (i * esz + esz), false)) }, c.length = esz ∧ (cs.drop (i * esz)).take esz = c)
        | _, _ => none
      | _, _ => none
    | some (.ptr id off), some a => match a.vcells, st.box id with
      | some cs, some (old, false) => match Nat.beq cs.length n, splice off cs old with
        | true, some new => some (fr, { st with box := upd st.box id (some (new, false)) }, True)
        | _, _ => none
      | _, _ => none
    | _, _ => none
  | .off d k p => match p.ev fr with
    | some (.ptr id off) => some (put1 fr d (.ptr id (off + k)), st, True)
    | some (.ro cs) => match dropN k cs with
      | some cs => some (put1 fr d (.ro cs), st, True)
      | none => none
    | some (.pel id esz i k' c) => some (put1 fr d (.pel id esz i (k' + k) c), st, True)
    | _ => none
  | .idx d esz x i => match x.ev fr, i.ev fr, rs with
    | some (.sli id esz' n _), some (.int _ k), some (.c cs) => some (put1 fr d (.pel id esz k.toNat 0 cs), st, esz' = esz ∧ 0 ≤ k ∧ k < n)
    | some (.lst _ esz' l), some (.int _ n), some (.c cs) => some (put1 fr d (.ro cs), st, esz' = esz ∧ 0 ≤ n ∧ l[n.toNat]? = some cs)
    | _, _, _ => none
  | .bin d op bt x y => match x.ev fr, y.ev fr with
    | some a, some b => match binAV op bt a b with
      | some (c, p) => some (put1 fr d c, st, p)
      | none => none
    | _, _ => none
  | .un d op x => match x.ev fr with
    | some a => match unAV op a with
      | some c => some (put1 fr d c, st, True)
      | none => none
    | none => none
  | .build d z ps => match afill fr z ps with
    | some cs => some (put1 fr d (.agg cs), st, True)
    | none => none
  | .bsl d n esz z ps => match afill fr z ps with
    | some cs => match chunk esz n cs with
      | some l => some (put1 fr d (.lst .full esz l), st, True)
      | none => none
    | none => none
  | .len d b x => match b, x.ev fr with
    | false, some (.lst _ _ l) => some (put1 fr d (.int .i64 l.length), st, True)
    | false, some (.sli _ _ n _) => some (put1 fr d (.int .i64 n), st, True)
    | false, some (.frs _ _ rows) => some (put1 fr d (.int .i64 rows.length), st, True)
    | true, some (.str s) => some (put1 fr d (.int .i64 s.size), st, True)
    | _, _ => none
  | .app d esz bytes x y => match x.ev fr, y.ev fr with
    | some (.lst t esz' l), some (.lst t2 esz2 m) => some (put1 fr d (.lst (appTag st d t) esz (l ++ m)), { st with row := appRow st d t }, OwnTag st t ∧ lstEsz t esz' esz ∧ lstEsz t2 esz2 esz ∧ (l.length + m.length) * bytes ≤ 140737488355328 ∧ l.length + m.length ≤ 140737488355328)
    | _, _ => none
  | .ext d i x => match x.ev fr with
    | some (.tup l) => match getN i l with
      | some a => some (put1 fr d a, st, True)
      | none => none
    | _ => none
  | .call d f args => match f.ev fr, evs fr args, rs with
    | some (.fn f cap), some as, some (.v r) => match argsOf as with
      | some as => some ((match d with | some d => put1 fr d r | none => fr), st, AC P f (as ++ cap) r)
      | none => none
    | some (.fn f cap), some as, some (.f esz rows) => match argsOf as, d with
      | some as, some d => match fr d with
        | none => some (put1 fr d (.frs d esz rows), st, MF P f (as ++ cap) esz rows)
        | some _ => none
      | _, _ => none
    | _, _, _ => none
  | .callo d f args => match f.ev fr, evs fr args, rs with
    | some (.fn f cap), some as, some (.v r) => match argsOf as with
      | some as => some ((match d with | some d => put1 fr d r | none => fr), st, AC P f (as ++ cap) r)
      | none => none
    | some (.fn f cap), some as, some (.o esz rows) => match argsOf as, d with
      | some as, some d => some (put1 fr d (.lst (.own d (st.row d + 1)) esz rows), { st with row := upd st.row d (st.row d + 1) }, MF P f (as ++ cap) esz rows)
      | _, _ => none
    | _, _, _ => none
  | .callr d f args => match f.ev fr, evs fr args, rs with
    | some (.fn f cap), some (.sli id esz n cap0 :: as), some (.m rows rows') => match argsOf as, st.box id, d with
      | some as, some (cs, false), some d => match fr d with
        | none => some (put1 fr d (.frs d esz rows'), { st with box := upd st.box id none }, (∃ sp, cs = rows.flatten ++ sp) ∧ cs.length = cap0 * esz ∧ n = rows.length ∧ RowsOk esz rows ∧ MR P f esz rows (as ++ cap) rows')
        | some _ => none
      | _, _, _ => none
    | some (.fn f cap), some (.lst .nil _ _ :: as), some (.n esz rows) => match argsOf as, d with
      | some as, some d => match fr d with
        | none => some (put1 fr d (.frs d esz rows), st, MN P f (as ++ cap) esz rows)
        | some _ => none
      | _, _ => none
    | some (.fn f cap), some (.sli id esz n cap0 :: as), some (.b rows r) => match argsOf as, st.box id, r.flat with
      | some as, some (cs, false), true => some ((match d with | some d => put1 fr d r | none => fr), st, (∃ sp, cs = rows.flatten ++ sp) ∧ cs.length = cap0 * esz ∧ n = rows.length ∧ RowsOk esz rows ∧ AC P f (.lst .any esz rows :: (as ++ cap)) r)
      | _, _, _ => none
    | some (.fn f cap), some as, some (.v r) => match argsOf as with
      | some as => some ((match d with | some d => put1 fr d r | none => fr), st, AC P f (as ++ cap) r)
      | none => none
    | some (.fn f cap), some as, some (.f esz rows) => match argsOf as, d with
      | some as, some d => match fr d with
        | none => some (put1 fr d (.frs d esz rows), st, MF P f (as ++ cap) esz rows)
        | some _ => none
      | _, _ => none
    | _, _, _ => none
  | .sub d tb esz' x lo hi => match tb, x.ev fr with
    | true, some (.str s) => match intOfOpt fr 0 lo, intOfOpt fr s.size hi with
      | some a, some b => some (put1 fr d (.str (s.extract a.toNat b.toNat)), st, 0 ≤ a ∧ a ≤ b ∧ b ≤ s.size)
      | _, _ => none
    | false, some (.lst _ esz l) => match intOfOpt fr 0 lo, intOfOpt fr l.length hi with
      | some a, some b => some (put1 fr d (.lst .any esz ((l.take b.toNat).drop a.toNat)), st, esz = esz' ∧ 0 ≤ a ∧ a ≤ b ∧ b ≤ l.length)
      | _, _ => none
    | _, _ => none
  | .bidx d x i => match x.ev fr, i.ev fr with
    | some (.str s), some (.int _ n) => some (put1 fr d (.int .u8 (s.data.getD n.toNat 0).toNat), st, 0 ≤ n ∧ n < s.size)
    | _, _ => none
  | .conv d k x => match x.ev fr with
    | some (.int _ n) => some (put1 fr d (.int k (k.wrap n)), st, True)
    | _ => none
  | .mkfn d f cap => match freeze st fr cap with
    | some (cs, st') => some (put1 fr d (.fn f cs), st', True)
    | none => none
  | .eqs d neg t x y => match x.ev fr, y.ev fr with
    | some (.agg cs), some (.agg ds) => match pcells cs, pcells ds with
      | some us, some vs => some (put1 fr d (.bool (match neg with | true => !eqCells cs ds | false => eqCells cs ds)), st, EqRun P neg t us vs (eqCells cs ds))
      | _, _ => none
    | some (.raw u), some (.raw v) => match nilQ u, nilQ v with
      | some b, some c => match x.isK || y.isK with
        | true => some (put1 fr d (.bool (match neg with | true => !(b && c) | false => b && c)), st, NilRun P neg t u v (b && c))
        | false => none
      | _, _ => none
    | _, _ => none

def AI.wantsRS : AI → Bool
  | .idx .. | .call .. | .callr .. | .callo .. => true
  | _ => false
def AI.dst : AI → Option Nat
  | .mov d _ | .pick d _ _ _ | .box d _ | .alloc d _ | .ld d _ _ _ | .off d _ _ | .idx d _ _ _ | .bin d _ _ _ _ | .un d _ _ | .build d _ _ | .bsl d _ _ _ _ | .len d _ _ | .app d _ _ _ _ | .ext d _ _
  | .sub d _ _ _ _ _ | .bidx d _ _ | .conv d _ _ | .mkfn d _ _ | .eqs d _ _ _ _ => some d
  | .call d _ _ => d
  | .callr d _ _ => d
  | .callo d _ _ => d
  | .st _ _ _ => none
def Opd.slots : Opd → List Nat
  | .s n => [n]
  | .k _ => []
def optSlots : Option Opd → List Nat
  | some x => x.slots
  | none => []
def AI.reads : AI → List Nat
  | .mov _ x | .box _ x | .ld _ _ _ x | .off _ _ x | .un _ _ x | .len _ _ x | .ext _ _ x | .conv _ _ x => x.slots
  | .pick _ c a b => c.slots ++ (a.slots ++ b.slots)
  | .alloc _ _ => []
  | .st _ p x => p.slots ++ x.slots
  | .idx _ _ x i | .bidx _ x i | .bin _ _ _ x i | .app _ _ _ x i | .eqs _ _ _ x i => x.slots ++ i.slots
  | .build _ _ ps | .bsl _ _ _ _ ps => ps.flatMap fun x => x.2.2.slots
  | .call _ f args => f.slots ++ args.flatMap Opd.slots
  | .callr _ f args => f.slots ++ args.flatMap Opd.slots
  | .callo _ f args => f.slots ++ args.flatMap Opd.slots
  | .sub _ _ _ x lo hi => x.slots ++ (optSlots lo ++ optSlots hi)
  | .mkfn _ _ cap => cap.flatMap Opd.slots
/-- what an instruction has to do with variables and rows -/
inductive Cl where
  | pure | ld | app | new | st | frz | strict
def AI.cl : AI → Cl
  | .ld .. => .ld
  | .app .. => .app
  | .box .. | .alloc .. => .new
  | .st .. => .st
  | .mkfn .. => .frz
  | .callr .. => .strict
  | .callo .. => .app
  | _ => .pure
def AI.still (i : AI) : Bool := match i.cl with
  | .pure | .ld => true
  | _ => false
/-- the slots whose values are taken for there under a guard -/
def AI.unw : AI → List Nat
  | .pick _ c _ _ => c.slots
  | i => i.reads
def gd (b w : Bool) : Bool := match w with
  | true => b
  | false => !b
/-- the Boolean under which an instruction is carried out -/
def GI.ctx (x : GI) (fr : Fr) : Option (Option Bool) :=
  match x.g with
  | none => some none
  | some (s, w) => match fr s with
    | some (.bool b) => some (some (gd b w))
    | some (.when c (.bool b)) => some (some (c && gd b w))
    | _ => none
def memN (s : Nat) : List Nat → Bool
  | [] => false
  | x :: l => match Nat.beq x s with
    | true => true
    | false => memN s l
def AV.isWhen : AV → Bool
  | .when _ _ => true
  | _ => false
def unwr (fr : Fr) (l : List Nat) : Fr := fun s => match memN s l with
  | true => match fr s with
    | some (.when c a) => match a.isWhen with
      | false => some a
      | true => some (.when c a)
    | x => x
  | false => fr s
def availB (fr : Fr) : List Nat → List Bool
  | [] => []
  | s :: l => match fr s with
    | some (.when c _) => c :: availB fr l
    | _ => availB fr l
def allT : List Bool → Prop
  | [] => True
  | b :: l => b = true ∧ allT l
def forceL : List Bool → Option (List Bool)
  | [] => some []
  | b :: l => match forceL l with
    | some r => some (b :: r)
    | none => none
/-- a step with its guard -/
def gstep (P : Program) (x : GI) (rs : Option RS) (fr : Fr) (st : St) : Option (Fr × St × Prop) :=
  match x.ctx fr with
  | some none => astep P x.i rs fr st
  | some (some c) => match x.i.still, x.i.dst with
    | true, some d => match astep P x.i rs (unwr fr x.i.unw) st with
      | some (fr2, _, p) => match fr2 d with
        | some v => match v.isWhen, forceL (availB fr x.i.unw) with
          | false, some bs => some (upd fr d (some (.when c v)), st, c = true → p ∧ allT bs)
          | _, _ => none
        | none => none
      | none => none
    | _, _ => none
  | none => none
/-- an instruction that asks nothing -/
def AI.silent : AI → Bool
  | .mov .. | .box .. | .alloc .. | .ld .. | .st .. | .off .. | .un .. | .build .. | .bsl .. | .len .. | .ext .. | .conv .. | .mkfn .. => true
  | .bin _ op _ _ _ => match op with
    | .eql | .neq | .lss | .leq | .gtr | .geq | .sub | .mul | .and | .or | .xor => true
    | _ => false
  | _ => false
/-- it is a row's element that is read or written -/
def AI.loud (i : AI) (fr : Fr) : Bool := match i with
  | .ld _ _ _ p | .st _ p _ => match p.ev fr with
    | some (.pel _ _ _ _ _) => true
    | _ => false
  | _ => false
def GI.quiet (x : GI) (fr : Fr) : Bool := match x.i.silent with
  | true => match x.ctx fr with
    | some none => !(x.i.loud fr)
    | some (some _) => match availB fr x.i.unw with
      | [] => !(x.i.loud (unwr fr x.i.unw))
      | _ :: _ => false
    | none => false
  | false => false
/-- a region in the order of the text -/
def arun (P : Program) : List GI → List RS → Fr → St → Option (List RS × Fr × St × Prop)
  | [], rs, fr, st => some (rs, fr, st, True)
  | x :: l, rs, fr, st => match x.i.wantsRS with
    | true => match rs with
      | r :: rs => match gstep P x (some r) fr st with
        | some (fr, st, p) => match arun P l rs fr st with
          | some (rs, fr, st, q) => some (rs, fr, st, p ∧ q)
          | none => none
        | none => none
      | [] => none
    | false => match x.quiet fr, gstep P x none fr st with
      | true, some (fr, st, _) => arun P l rs fr st
      | false, some (fr, st, p) => match arun P l rs fr st with
        | some (rs, fr, st, q) => some (rs, fr, st, p ∧ q)
        | none => none
      | _, none => none

/-! ### from the model's operations -/
def constAV (P : Program) (t : TypeId) : Value → Option AV
  | .int k n => some (.int k n)
  | .bool b => some (.bool b)
  | .string s => some (.str s)
  | .slice none 0 0 => match P.underlying t with
    | some (.slice e) => some (.lst .nil (P.cellsOf e) [])
    | _ => some (.lst .nil 0 [])
  | .pointer none => some (.raw (.pointer none))
  | .map none => some (.raw (.map none))
  | .nilFunc => some (.raw .nilFunc)
  | .nilIface => some (.raw .nilIface)
  | _ => none
def opdOf (P : Program) (t : TypeId) : Operand → Option Opd
  | .tmp n => some (.s n)
  | .const v => (constAV P t v).map .k
  | .func f => some (.k (.fn f []))
  | .global _ => none
/-- the types of the cells of a value of a type -/
def leaves (P : Program) : Nat → TypeId → List TypeId
  | 0, _ => []
  | n + 1, t => match P.underlying t with
    | some (.struct fs) => fs.toList.flatMap fun f => leaves P n f.type
    | some (.array k e) => (List.replicate k (leaves P n e)).flatten
    | _ => [t]
def zeroCellsAV (P : Program) (ts : List TypeId) : List Value → Option (List AV)
  | [] => some []
  | v :: vs => match constAV P (ts.headD 0) v, zeroCellsAV P ts.tail vs with
    | some a, some as => some (a :: as)
    | _, _ => none
def zeroAV (P : Program) (t : TypeId) : Option (List AV) :=
  match P.info? t with
  | some i => match i.zero with
    | some v => zeroCellsAV P (leaves P 8 t) v.cells.toList
    | none => none
  | none => none
def isAggT (P : Program) (t : TypeId) : Bool :=
  match P.underlying t with
  | some (.struct _) | some (.array _ _) => true
  | _ => false
/-- a comparison of structs: is it '!='? -/
def eqType (P : Program) (t : TypeId) : Bool :=
  match P.underlying t with
  | some (.struct _) => true
  | some (.interface _) => true
  | some (.pointer _) => true
  | _ => false
def structEq (P : Program) (op : BinOp) (t : TypeId) : Option Bool :=
  match op with
  | .eql => match eqType P t with
    | true => some false
    | false => none
  | .neq => match eqType P t with
    | true => some true
    | false => none
  | _ => none
def isBoolT (P : Program) (t : TypeId) : Bool :=
  match P.underlying t with
  | some .bool => true
  | _ => false
def partsOf (P : Program) (place : Nat → Option (Nat × Nat × TypeId)) : List (Nat × Operand) → Option (List (Nat × Nat × Opd))
  | [] => some []
  | (i, x) :: l => match place i with
    | some (off, size, t) => match opdOf P t x, partsOf P place l, Nat.ble 1 size with
      | some x, some l, true => some ((off, size, x) :: l)
      | _, _, _ => none
    | none => none
def opdsOf (P : Program) : List Operand → List TypeId → Option (List Opd)
  | [], _ => some []
  | x :: l, ts => match opdOf P (ts.headD 0) x, opdsOf P l ts.tail with
    | some x, some l => some (x :: l)
    | _, _ => none
def optOpd (P : Program) : Option Operand → Option (Option Opd)
  | none => some none
  | some x => match opdOf P 0 x with
    | some x => some (some x)
    | none => none
/-- one operation as an instruction ('gs': the numbers of operations by whose Booleans others are guarded; n: the operation's own) -/
def isMut (mu : List Nat) : Opd → Bool
  | .k (.fn f []) => memN f mu
  | _ => false
def isOwn (mu : List Nat) : Opd → Bool
  | .k (.fn f []) => memN (f + 1000000) mu
  | _ => false
def opAI (P : Program) (mu : List Nat) (gs : Bool) (o : Oper) : Option AI :=
  match o.op with
  | .move x | .assign x => match o.dst, opdOf P o.type x with
    | some d, some x => some (.mov d x)
    | _, _ => none
  | .pick c a b => match o.dst, opdOf P 0 c, opdOf P o.type a, opdOf P o.type b with
    | some d, some c, some a, some b => some (.pick d c a b)
    | _, _, _, _ => none
  | .box t x => match o.dst, opdOf P t x with
    | some d, some x => some (.box d x)
    | _, _ => none
  | .alloc t => match o.dst, zeroAV P t with
    | some d, some z => some (.alloc d z)
    | _, _ => none
  | .load t p => match o.dst, opdOf P 0 p, P.info? t with
    | some d, some p, some i => if (P.underlying t).isSome then some (.ld d i.size (isAggT P t) p) else none
    | _, _, _ => none
  | .store t p x => match o.dst, opdOf P 0 p, opdOf P t x, P.info? t with
    | none, some p, some x, some i => some (.st i.size p x)
    | _, _, _, _ => none
  | .fieldAddr t p j => match o.dst, opdOf P 0 p, P.underlying t with
    | some d, some p, some (.struct fs) => match fs[j]? with
      | some f => if (P.cellsOf f.type) = 0 then none else some (.off d f.offset p)
      | none => none
    | _, _, _ => none
  | .indexAddr t x i => match o.dst, opdOf P t x, opdOf P 0 i, P.underlying t with
    | some d, some x, some i, some (.slice e) => match P.info? e with
      | some inf => if 0 < inf.size then some (.idx d inf.size x i) else none
      | none => none
    | _, _, _, _ => none
  | .index t x i => match o.dst, opdOf P t x, opdOf P 0 i, P.underlying t with
    | some d, some x, some i, some .string => some (.bidx d x i)
    | _, _, _, _ => none
  | .binOp op t x y _ => match o.dst, opdOf P t x, opdOf P t y with
    | some d, some x, some y => match structEq P op t with
      | some neg => some (.eqs d neg t x y)
      | none => some (.bin d op (isBoolT P t) x y)
    | _, _, _ => none
  | .unOp op _ x => match o.dst, opdOf P 0 x with
    | some d, some x => some (.un d op x)
    | _, _ => none
  | .build t ps => match o.dst, zeroAV P t, P.underlying t with
    | some d, some z, some (.struct fs) => match fs.toList.mapM (fun f => (P.info? f.type).map fun i => (f.offset, i.size)) with
      | some pl => match partsOf P (fun i => match pl.toArray[i]?, fs[i]? with | some (off, size), some f => some (off, size, f.type) | _, _ => none) ps.toList with
        | some l => some (.build d z l)
        | none => none
      | none => none
    | _, _, _ => none
  | .buildSlice t n ps => match o.dst, P.underlying t with
    | some d, some (.slice e) => match P.info? e, zeroAV P e with
      | some inf, some z => if 0 < inf.size ∧ n * inf.size ≤ 16777216 ∧ z.length = inf.size then match partsOf P (fun i => some (i * inf.size, inf.size, e)) ps.toList with
          | some l => some (.bsl d n inf.size (List.replicate n z).flatten l)
          | none => none
        else none
      | _, _ => none
    | _, _ => none
  | .extract x i => match o.dst, opdOf P 0 x with
    | some d, some x => some (.ext d i x)
    | _, _ => none
  | .slice t x lo hi none => match o.dst, opdOf P t x, optOpd P lo, optOpd P hi, P.underlying t with
    | some d, some x, some lo, some hi, some .string => some (.sub d true 0 x lo hi)
    | some d, some x, some lo, some hi, some (.slice e) => match P.info? e with
      | some inf => if 0 < inf.size then some (.sub d false inf.size x lo hi) else none
      | none => none
    | _, _, _, _, _ => none
  | .convert s t x => match o.dst, opdOf P s x, P.underlying s, P.underlying t with
    | some d, some x, some (.int _), some (.int k) => some (.conv d k x)
    | _, _, _, _ => none
  | .makeFunc (.func f) first cap => match o.dst, opdsOf P cap.toList [], first.size with
    | some d, some cap, 0 => some (.mkfn d f cap)
    | _, _, _ => none
  | .call c => match c.callee with
    | .value f => match opdOf P 0 f, opdsOf P c.args.toList c.argTypes.toList with
      | some f, some args => match isMut mu f with
        | true => some (.callr o.dst f args)
        | false => match isOwn mu f with
          | true => some (.callo o.dst f args)
          | false => some (.call o.dst f args)
      | _, _ => none
    | .builtin .len => match o.dst, c.args.toList, c.argTypes.toList with
      | some d, [x], [t] => match opdOf P t x, P.underlying t with
        | some x, some .string => some (.len d true x)
        | some x, some (.slice _) => some (.len d false x)
        | _, _ => none
      | _, _, _ => none
    | .builtin .append => match o.dst, c.args.toList, c.argTypes.toList with
      | some d, [x, y], [t, u] => match opdOf P t x, opdOf P t y, P.underlying t with
        | some x, some y, some (.slice e) => match P.info? e with
          | some inf => match inf.zero with
            | some z => if Nat.beq t u && Nat.beq z.cells.size inf.size && Nat.ble 1 inf.size && Nat.ble 1 inf.bytes then some (.app d inf.size inf.bytes x y) else none
            | none => none
          | none => none
        | _, _, _ => none
      | _, _, _ => none
    | _ => none
  | _ => none
/-- the operations of a region, guards by slots -/
def guardOf (ops : Array Oper) (o : Oper) : Option (Option (Nat × Bool)) :=
  match o.guard with
  | none => some none
  | some (j, b) => match (ops[j]?).bind (·.dst) with
    | some d => some (some (d, b))
    | none => none
def isGuard (ops : Array Oper) (k : Nat) : Bool := ops.any fun o => match o.guard with | some (j, _) => Nat.beq j k | none => false
def dstEq : Option Nat → Option Nat → Bool
  | none, none => true
  | some a, some b => Nat.beq a b
  | _, _ => false
def opsGI (P : Program) (mu : List Nat) (ops : Array Oper) : Nat → List Oper → Option (List GI)
  | _, [] => some []
  | k, o :: l => match guardOf ops o, opAI P mu (isGuard ops k) o, opsGI P mu ops (k + 1) l with
    | some g, some i, some r => match dstEq i.dst o.dst with
      | true => some (⟨g, i⟩ :: r)
      | false => none
    | _, _, _ => none
end Go.Proofs.YtpcddcfpbohogaaDoor
