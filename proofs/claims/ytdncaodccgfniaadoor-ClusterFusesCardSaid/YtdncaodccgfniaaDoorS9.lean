/-
  The texts that the claim wants, one behind the other: part 9.
-/
import Derived.Test.YtdncaodccgfniaaDoorS8
import Derived.Test.YtdncaodccgfniaaDoorRows
set_option linter.unusedSimpArgs false
set_option linter.unusedVariables false
namespace Go.Proofs.YtdncaodccgfniaaDoor
open Go.ChangeShapes Go.WideShapes Go.ChangeAt Go.RowKit Go.Deep
theorem own : ownKnob Tryd.prog.godebug = none := by kernel_rfl
theorem laidOut : laidOutB Tryd.prog = true := by kernel_rfl
theorem wt_arg {H : Type} {ts : List TypeId} {ds : List (DataW H)} (h : (DataW.weightsEach Tryd.prog ts ds).all (· ≤ reachBytes) = true) {j : Nat} {t : TypeId} {d : DataW H} (ht : ts[j]? = some t) (hd : ds[j]? = some d) : WtOk Tryd.prog t d := fun q hq => by
 have := List.all_eq_true.1 h q (DataW.weights_mem_each ht hd q hq)
 simpa using this
theorem RelPs.two {σ : Sg} {a b : Value} {x y : AV} (h1 : RelP σ a x) (h2 : RelP σ b y) : RelPs σ [a, b] [x, y] := by
 refine ⟨rfl, fun j v w hv hu => ?_⟩
 rcases j with _ | _ | j <;> simp at hv hu
 ·subst hv hu; exact h1
 ·subst hv hu; exact h2
def setG (h : Array Obj) (g : Nat) (l : List Value) : Array Obj := h.modify g fun
 | .cells _ t frozen => .cells l.toArray t frozen
 | o => o
end Go.Proofs.YtdncaodccgfniaaDoor
namespace Go.Proofs.YtdncaodccgfniaaDoor
open Go.RowKit
structure OId where
 k : ByteArray
 s : ByteArray
 n : ByteArray
deriving DecidableEq
structure CEnt where
 id : OId
 body : V
 ver : Int
structure Clu where
 has : List CEnt
 last : Int
 fails : List Int
 fuse : Int
 down : Bool
def Clu.find (c : Clu) (id : OId) : Option CEnt := c.has.find? fun e => decide (e.id = id)
def Clu.write (c : Clu) : Int × Clu :=
 if (c.down || decide (c.fuse = 0)) = true then (31, { c with down := true })
 else ((if (0 : Int) ∈ c.fails then 30 else 0), { c with fuse := (if 0 < c.fuse then c.fuse - 1 else c.fuse), fails := (c.fails.filter fun n => decide (0 < n)).map fun n => n - 1 })
def putE (l : List CEnt) (e : CEnt) : List CEnt := if l.any (fun x => decide (x.id = e.id)) = true then l.map (fun x => if x.id = e.id then e else x) else l ++ [e]
def Clu.put (c : Clu) (id : OId) (v : V) : Clu := { c with last := c.last + 1, has := putE c.has ⟨id, v, c.last + 1⟩ }
def Clu.create (c : Clu) (wr : Int) (id : OId) (v : V) : Int × Clu :=
 if wr ≠ 0 then (wr, c) else if c.write.1 ≠ 0 then c.write else if (c.find id).isSome = true then (4, c.write.2) else (0, c.write.2.put id v)
def Clu.new : Clu := ⟨[], 0, [], -1, false⟩
theorem write_has (c : Clu) : c.write.2.has = c.has ∧ c.write.2.last = c.last := by unfold Clu.write; split <;> exact ⟨rfl, rfl⟩
theorem find_none {c : Clu} {id : OId} : c.find id = none ↔ ∀ e ∈ c.has, e.id ≠ id := by
 unfold Clu.find
 rw [List.find?_eq_none]
 simp
theorem putE_new {l : List CEnt} {e : CEnt} (h : ∀ x ∈ l, x.id ≠ e.id) : putE l e = l ++ [e] := by
 unfold putE
 rw [if_neg]
 simpa using h
def creates (ids : Nat → OId) (v : V) (c : Clu) : Nat → Clu
 | 0 => c
 | k + 1 => ((creates ids v c k).create 0 (ids k) v).2
theorem creates_ids {ids : Nat → OId} {v : V} {c : Clu} (hc : ∀ e ∈ c.has, ∀ i, e.id ≠ ids i) : ∀ k, ∀ e ∈ (creates ids v c k).has, (∀ i, e.id ≠ ids i) ∨ ∃ i, i < k ∧ e.id = ids i
 | 0 => fun e he => .inl (hc e he)
 | k + 1 => fun e he => by
  have ih := creates_ids (v := v) hc k
  unfold creates Clu.create at he
  rw [if_neg (by simp)] at he
  have up : ((∀ i, e.id ≠ ids i) ∨ ∃ i, i < k ∧ e.id = ids i) → (∀ i, e.id ≠ ids i) ∨ ∃ i, i < k + 1 ∧ e.id = ids i := fun h => h.imp _root_.id fun ⟨i, h1, h2⟩ => ⟨i, by omega, h2⟩
  split at he
  ·rw [(write_has _).1] at he; exact up (ih e he)
  ·split at he
   ·rw [(write_has _).1] at he; exact up (ih e he)
   ·simp only [Clu.put] at he
    rw [(write_has _).1] at he
    unfold putE at he
    split at he
    ·obtain ⟨x, hx, rfl⟩ := List.mem_map.1 he
     split
     ·exact .inr ⟨k, by omega, rfl⟩
     ·rename_i hne
      rcases ih x hx with h | ⟨i, h1, h2⟩
      ·exact .inl h
      ·exact .inr ⟨i, by omega, h2⟩
    ·rcases List.mem_append.1 he with he | he
     ·exact up (ih e he)
     ·rw [List.mem_singleton.1 he]; exact .inr ⟨k, by omega, rfl⟩
theorem creates_new {ids : Nat → OId} {v : V} {c : Clu} (hc : ∀ e ∈ c.has, ∀ i, e.id ≠ ids i) {k : Nat} (hne : ∀ i, i < k → ids i ≠ ids k) : (creates ids v c k).find (ids k) = none := by
 rw [find_none]
 intro e he
 rcases creates_ids hc k e he with h | ⟨i, h1, h2⟩
 ·exact h k
 ·rw [h2]; exact hne i h1
theorem create_new {c : Clu} {id : OId} (v : V) (h : c.find id = none) : c.create 0 id v = if c.write.1 ≠ 0 then c.write else (0, c.write.2.put id v) := by
 unfold Clu.create
 rw [if_neg (by simp), h]
 simp
theorem put_len {c : Clu} {id : OId} (v : V) (h : c.find id = none) : (c.put id v).has.length = c.has.length + 1 := by
 unfold Clu.put
 rw [putE_new (fun x hx => find_none.1 h x hx)]
 simp
def fused (ids : Nat → OId) (v : V) (f k : Nat) : Clu := creates ids v { Clu.new with fuse := f } k
theorem fused_at {ids : Nat → OId} {v : V} {f : Nat} (hne : ∀ i j, i < j → ids i ≠ ids j) : ∀ k, (fused ids v f k).fails = [] ∧ (fused ids v f k).has.length = min k f ∧ (k ≤ f → (fused ids v f k).down = false ∧ (fused ids v f k).fuse = ((f - k : Nat) : Int)) ∧ (f < k → (fused ids v f k).down = true ∧ (fused ids v f k).fuse = 0)
 | 0 => ⟨rfl, by simp [fused, creates, Clu.new], fun _ => ⟨rfl, by simp [fused, creates]⟩, fun h => by omega⟩
 | k + 1 => by
  obtain ⟨h1, h2, h3, h4⟩ := fused_at (v := v) (f := f) hne k
  have hn : (fused ids v f k).find (ids k) = none := creates_new (fun e he => by simp [Clu.new] at he) fun i hi => hne i k hi
  have e : fused ids v f (k + 1) = ((fused ids v f k).create 0 (ids k) v).2 := rfl
  rw [create_new v hn] at e
  have hp := put_len (c := (fused ids v f k).write.2) (id := ids k) v (by rw [find_none, (write_has _).1]; exact find_none.1 hn)
  rw [(write_has _).1] at hp
  generalize fused ids v f k = c at *
  by_cases hk : k < f
  ·obtain ⟨d1, d2⟩ := h3 (by omega)
   have hw : c.write = (0, { c with fuse := (((f - (k + 1) : Nat)) : Int), fails := [] }) := by
    unfold Clu.write
    rw [d1, d2, h1, if_neg (by simp; omega)]
    simp only [List.not_mem_nil, if_false, List.filter_nil, List.map_nil]
    rw [if_pos (by omega)]
    congr 2
    omega
   rw [hw] at e hp
   rw [if_neg (by simp)] at e
   rw [e]
   exact ⟨rfl, by simp only at hp ⊢; rw [hp, h2]; omega, fun _ => ⟨d1, rfl⟩, fun h => by omega⟩
  ·have hw : c.write = (31, { c with down := true }) := by
    unfold Clu.write
    by_cases hf : k = f
    ·obtain ⟨d1, d2⟩ := h3 (by omega)
     rw [if_pos (by rw [d2]; simp; omega)]
    ·obtain ⟨d1, _⟩ := h4 (by omega)
     rw [if_pos (by rw [d1]; rfl)]
   rw [hw, if_pos (by simp)] at e
   rw [e]
   refine ⟨h1, by show c.has.length = _; rw [h2]; omega, fun h => by omega, fun _ => ⟨rfl, ?_⟩⟩
   show c.fuse = 0
   by_cases hf : k = f
   ·rw [(h3 (by omega)).2]; omega
   ·exact (h4 (by omega)).2
def nmI (i : Nat) : ByteArray := ⟨#[99, (97 + i % 26).toUInt8, (97 + i / 26).toUInt8]⟩
def idI (i : Nat) : OId := if i < 60 then ⟨⟨#[65]⟩, ⟨#[98]⟩, nmI i⟩ else ⟨⟨#[]⟩, ⟨#[]⟩, ⟨(List.replicate i 0).toArray⟩⟩
theorem nmI_inj : ∀ i : Fin 60, ∀ j : Fin 60, nmI i.val = nmI j.val → i = j := by decide +kernel
theorem idI_ne (i j : Nat) (h : i < j) : idI i ≠ idI j := by
 unfold idI
 intro e
 by_cases hi : i < 60
 ·rw [if_pos hi] at e
  by_cases hj : j < 60
  ·rw [if_pos hj] at e
   injection e with _ _ e
   have := nmI_inj ⟨i, hi⟩ ⟨j, hj⟩ e
   have := congrArg Fin.val this
   simp only at this
   omega
  ·rw [if_neg hj] at e
   injection e with e _ _
   have := congrArg ByteArray.size e
   cases this
 ·rw [if_neg hi, if_neg (by omega)] at e
  injection e with _ _ e
  have := congrArg ByteArray.size e
  have h1 : ∀ k : Nat, (⟨(List.replicate k (0 : UInt8)).toArray⟩ : ByteArray).size = k := fun k => by
   show (List.replicate k (0 : UInt8)).toArray.size = k
   simp
  rw [h1, h1] at this
  omega
end Go.Proofs.YtdncaodccgfniaaDoor
