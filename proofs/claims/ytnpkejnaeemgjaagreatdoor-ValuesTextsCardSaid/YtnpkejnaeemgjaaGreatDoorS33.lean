/-
  The texts that the claim wants, one behind the other: part 33.
-/
import Derived.Test.YtnpkejnaeemgjaaGreatDoorS32
import Derived.Lib.ItoaLen
import Derived.Test.YtnpkejnaeemgjaaGreatDoorChecked
set_option linter.unusedSimpArgs false
set_option linter.unusedVariables false
namespace Go.Proofs.YtnpkejnaeemgjaaGreatDoor
open Go.RowKit
theorem itB_list (n : Int) : (itB n).data.toList = Lib.itoa n := rfl
theorem itoa_facts (n : Int) : (Lib.itoa n ≠ []) ∧ ∀ c ∈ Lib.itoa n, c = 45 ∨ okD c = true := by
 obtain ⟨f1, _, f3⟩ := decD_facts n.natAbs n.natAbs (Nat.le_refl _)
 unfold Lib.itoa
 split
 ·refine ⟨by simp, fun c hc => ?_⟩
  rcases List.mem_cons.1 hc with rfl | hc
  ·exact .inl rfl
  ·exact .inr (f1 c hc)
 ·rename_i hn
  rw [show n.toNat = n.natAbs by omega]
  exact ⟨f3, fun c hc => .inr (f1 c hc)⟩
theorem dig_wB {c : UInt8} (h : c = 45 ∨ okD c = true) : wB c = true ∧ c ≠ 10 ∧ c ≠ 9 := by
 have key : ∀ k : Fin 256, ((UInt8.ofNat k.val == 45 || okD (UInt8.ofNat k.val)) = true → (wB (UInt8.ofNat k.val) && !(UInt8.ofNat k.val == 10) && !(UInt8.ofNat k.val == 9)) = true) := by decide +kernel
 have := key ⟨c.toNat, c.toNat_lt⟩
 simp only [UInt8.ofNat_toNat] at this
 have := this (by rcases h with rfl | h; rfl; rw [h]; simp)
 simpa [and_assoc] using this
end Go.Proofs.YtnpkejnaeemgjaaGreatDoor
/-
 YamlWrong, walked: it answers true.
-/
namespace Go.Proofs.YtnpkejnaeemgjaaGreatDoor
open Go.RowKit
def wordB (s : ByteArray) : ByteArray := if bareB s then s else quoteB s
theorem wordB_size (s : ByteArray) : (wordB s).size ≤ 2 + 2 * s.size := by
 unfold wordB
 split
 ·omega
 ·have := quoteP_size s s.size
  have z : (ByteArray.mk #[34]).size = 1 := rfl
  rw [quoteB, ByteArray.size_append]; omega
def padB (k : Nat) : ByteArray := ⟨(List.replicate k (32 : UInt8)).toArray⟩
def V.leaf (v : V) : Bool := v.l.isEmpty && v.m.isEmpty
mutual
def V.lay (w : ByteArray → ByteArray) (pr : V → ByteArray) : V → Nat → ByteArray
 | .mk _ _ _ _ l m, k => layL w pr l k ++ layM w pr m k
def layL (w : ByteArray → ByteArray) (pr : V → ByteArray) : List V → Nat → ByteArray
 | [], _ => ⟨#[]⟩
 | x :: l, k => (padB k ++ ⟨#[45]⟩) ++ (if x.leaf = true then ⟨#[32]⟩ ++ pr x ++ ⟨#[10]⟩ else ⟨#[10]⟩ ++ V.lay w pr x (k + 2)) ++ layL w pr l k
def layM (w : ByteArray → ByteArray) (pr : V → ByteArray) : List (ByteArray × V) → Nat → ByteArray
 | [], _ => ⟨#[]⟩
 | (y, x) :: m, k => (padB k ++ w y ++ ⟨#[58]⟩) ++ (if x.leaf = true then ⟨#[32]⟩ ++ pr x ++ ⟨#[10]⟩ else ⟨#[10]⟩ ++ V.lay w pr x (k + 2)) ++ layM w pr m k
end
def V.tail (w : ByteArray → ByteArray) (pr : V → ByteArray) (x : V) (k : Nat) : ByteArray := if x.leaf = true then ⟨#[32]⟩ ++ pr x ++ ⟨#[10]⟩ else ⟨#[10]⟩ ++ V.lay w pr x (k + 2)
def V.emit (w : ByteArray → ByteArray) (pr : V → ByteArray) (v : V) : ByteArray := if v.leaf = true then pr v ++ ⟨#[10]⟩ else v.lay w pr 0
variable {w : ByteArray → ByteArray} {pr : V → ByteArray}
theorem V.lay_eq (v : V) (k : Nat) : v.lay w pr k = layL w pr v.l k ++ layM w pr v.m k := by cases v; simp [V.lay, V.l, V.m]
theorem layL_cons (x : V) (l : List V) (k : Nat) : layL w pr (x :: l) k = (padB k ++ ⟨#[45]⟩) ++ x.tail w pr k ++ layL w pr l k := by rw [layL, V.tail]
theorem layM_cons (y : ByteArray) (x : V) (m : List (ByteArray × V)) (k : Nat) : layM w pr ((y, x) :: m) k = (padB k ++ w y ++ ⟨#[58]⟩) ++ x.tail w pr k ++ layM w pr m k := by rw [layM, V.tail]
theorem empty_app (a : ByteArray) : (⟨#[]⟩ : ByteArray) ++ a = a := ByteArray.empty_append
theorem layL_append (k : Nat) : ∀ a b : List V, layL w pr (a ++ b) k = layL w pr a k ++ layL w pr b k
 | [], b => by rw [layL, empty_app]; rfl
 | x :: a, b => by rw [List.cons_append, layL_cons, layL_cons, layL_append k a b]; simp only [ByteArray.append_assoc]
theorem layM_append (k : Nat) : ∀ a b : List (ByteArray × V), layM w pr (a ++ b) k = layM w pr a k ++ layM w pr b k
 | [], b => by rw [layM, empty_app]; rfl
 | (y, x) :: a, b => by rw [List.cons_append, layM_cons, layM_cons, layM_append k a b]; simp only [ByteArray.append_assoc]
theorem layL_take {l : List V} {i : Nat} {x : V} (h : l[i]? = some x) (k : Nat) : layL w pr (l.take (i + 1)) k = layL w pr (l.take i) k ++ ((padB k ++ ⟨#[45]⟩) ++ x.tail w pr k) := by
 rw [List.take_add_one, h, layL_append]
 simp only [Option.toList]
 rw [layL_cons, layL]
 congr 1
 exact ByteArray.append_empty
theorem layM_take {l : List (ByteArray × V)} {i : Nat} {y : ByteArray} {x : V} (h : l[i]? = some (y, x)) (k : Nat) : layM w pr (l.take (i + 1)) k = layM w pr (l.take i) k ++ ((padB k ++ w y ++ ⟨#[58]⟩) ++ x.tail w pr k) := by
 rw [List.take_add_one, h, layM_append]
 simp only [Option.toList]
 rw [layM_cons, layM]
 congr 1
 exact ByteArray.append_empty
theorem layL_le (l : List V) (i k : Nat) : (layL w pr (l.take i) k).size ≤ (layL w pr l k).size := by
 conv => rhs; rw [← List.take_append_drop i l, layL_append, ByteArray.size_append]
 omega
theorem layM_le (l : List (ByteArray × V)) (i k : Nat) : (layM w pr (l.take i) k).size ≤ (layM w pr l k).size := by
 conv => rhs; rw [← List.take_append_drop i l, layM_append, ByteArray.size_append]
 omega
theorem leaf_iff {v : V} : v.leaf = true ↔ v.l.length + v.m.length = 0 := by
 rw [V.leaf, Bool.and_eq_true, List.isEmpty_iff, List.isEmpty_iff, ← List.length_eq_zero_iff, ← List.length_eq_zero_iff]
 omega
theorem padB_size (k : Nat) : (padB k).size = k := by simp [padB, ByteArray.size]
theorem ba_app_list (a b : ByteArray) : (a ++ b).data.toList = a.data.toList ++ b.data.toList := by simp
theorem take_bytes {s : ByteArray} {k : Nat} (h : k < s.size) : s.data.toList.take (k + 1) = s.data.toList.take k ++ [s[k]] := by
 have h2 : s.data.toList[k]? = some s[k] := by rw [List.getElem?_eq_getElem (show k < s.data.toList.length from h)]; rfl
 exact take_snoc h2
theorem quoteP_list (s : ByteArray) : ∀ k, k ≤ s.size → (quoteP s k).data.toList = 34 :: (s.data.toList.take k).flatMap fun c => (quoteC c).data.toList := by
 intro k
 induction k with
 | zero => intro _; rfl
 | succ k ih =>
  intro h
  rw [quoteP, byte_at (show k < s.size by omega), ba_app_list, ih (by omega), take_bytes (show k < s.size by omega), List.flatMap_append]
  simp
theorem quoteB_list (s : ByteArray) : (quoteB s).data.toList = 34 :: ((s.data.toList.flatMap fun c => (quoteC c).data.toList) ++ [34]) := by
 rw [quoteB, ba_app_list, quoteP_list s s.size (Nat.le_refl _), List.take_of_length_le (show s.data.toList.length ≤ s.size from Nat.le_refl _)]
 rfl
theorem dbl_esc (d : UInt8) (l out : List UInt8) : dbl (92 :: d :: l) out = if d = 110 then dbl l (out ++ [10]) else if d = 116 then dbl l (out ++ [9]) else if d = 34 ∨ d = 92 then dbl l (out ++ [d]) else none := by
 rw [dbl_cons, if_neg (by decide), if_pos rfl]
theorem dbl_quoteR (r : Bs) : ∀ (l out : Bs), dbl ((l.flatMap fun c => (quoteC c).data.toList) ++ 34 :: r) out = some (out ++ l, r)
 | [], out => by
  show dbl (34 :: r) out = _
  rw [dbl_cons, if_pos rfl, List.append_nil]
 | c :: l, out => by
  rw [List.flatMap_cons, List.append_assoc]
  by_cases h10 : c = 10
  ·subst h10
   show dbl (92 :: 110 :: ((l.flatMap fun c => (quoteC c).data.toList) ++ 34 :: r)) out = _
   rw [dbl_esc, if_pos rfl, dbl_quoteR r l, List.append_assoc]; rfl
  by_cases h9 : c = 9
  ·subst h9
   show dbl (92 :: 116 :: ((l.flatMap fun c => (quoteC c).data.toList) ++ 34 :: r)) out = _
   rw [dbl_esc, if_neg (by decide), if_pos rfl, dbl_quoteR r l, List.append_assoc]; rfl
  by_cases h34 : c = 34 ∨ c = 92
  ·have e : (quoteC c).data.toList = [92, c] := by rw [quoteC, if_neg h10, if_neg h9, if_pos h34]
   rw [e]
   show dbl (92 :: c :: ((l.flatMap fun c => (quoteC c).data.toList) ++ 34 :: r)) out = _
   rw [dbl_esc, if_neg (by rcases h34 with rfl | rfl <;> decide), if_neg (by rcases h34 with rfl | rfl <;> decide), if_pos h34, dbl_quoteR r l, List.append_assoc]; rfl
  ·have e : (quoteC c).data.toList = [c] := by rw [quoteC, if_neg h10, if_neg h9, if_neg h34]
   rw [e]
   show dbl (c :: ((l.flatMap fun c => (quoteC c).data.toList) ++ 34 :: r)) out = _
   rw [dbl_cons, if_neg (fun e => h34 (.inl e)), if_neg (fun e => h34 (.inr e)), if_neg (fun e => e.elim h10 h9), dbl_quoteR r l, List.append_assoc]; rfl
theorem unq_quote (s : ByteArray) (r : Bs) : unqL ((quoteB s).data.toList ++ r) = some (s.data.toList, r) := by
 rw [quoteB_list, List.cons_append, List.append_assoc, unqL, if_pos rfl]
 exact dbl_quoteR r _ []
def BareAt (s : Bs) (m i : Nat) : Prop := ∀ n, s.length < n + i → bareE s n i = m
abbrev BareOk (s : Bs) (i : Nat) : Prop := BareAt s s.length i
theorem BareOk.nil {s : Bs} {i : Nat} (h : s.drop i = []) : BareOk s i := fun n _ => by
 cases n with
 | zero => rfl
 | succ n => unfold bareE; rw [h]
theorem BareAt.run {s : Bs} {m : Nat} : ∀ {a r : Bs} {i : Nat}, s.drop i = a ++ r → (∀ c ∈ a, okB c = true) → BareAt s m (i + a.length) → BareAt s m i
 | [], r, i, _, _, h => by simpa using h
 | c :: a, r, i, hd, ha, h => fun n hn => by
  have hc := ha c (by simp)
  simp only [okB, Bool.and_eq_true, Bool.not_eq_true'] at hc
  have ih : BareAt s m (i + 1) := BareAt.run (a := a) (r := r) (by rw [← List.drop_drop, hd]; rfl) (fun x hx => ha x (by simp [hx])) (by rw [show i + 1 + a.length = i + (c :: a).length by simp; omega]; exact h)
  have hz := congrArg List.length hd
  rw [List.length_drop, List.length_append, List.length_cons] at hz
  cases n with
  | zero => omega
  | succ n =>
   unfold bareE
   rw [hd]
   simp only [List.cons_append]
   rw [if_neg (by simp [hc.1]), if_neg (by simp [hc.2])]
   exact ih n (by omega)
theorem BareAt.quote {s q x r : Bs} {m i : Nat} (hd : s.drop i = q ++ r) (hu : unqL (q ++ r) = some (x, r)) (hq : quoted q = true) (ho : openB (prevL s i) = true) (hi : i + q.length ≤ s.length) (h : BareAt s m (i + q.length)) : BareAt s m i := fun n hn => by
 cases q with
 | nil => cases hq
 | cons c q =>
  cases n with
  | zero => simp only [List.length_cons] at hi; omega
  | succ n =>
   have hc : isQ c = true := hq
   have h35 : (c == 35) = false := by
    cases h35 : c == 35 with
    | false => rfl
    | true => rw [eq_of_beq h35] at hc; cases hc
   have hlen : s.length - r.length = i + (c :: q).length := by
    have := congrArg List.length hd
    rw [List.length_drop, List.length_append] at this
    omega
   unfold bareE
   rw [hd]
   simp only [List.cons_append]
   rw [if_neg (by simp [h35]), if_pos (by simp [hc, ho])]
   rw [List.cons_append] at hu
   rw [hu]
   simp only
   rw [hlen]
   exact h n (by simp only [List.length_cons]; omega)
theorem bareL_of {s : Bs} {m : Nat} (h : BareAt s m 0) : bareL s = s.take m := by rw [bareL, h _ (by omega)]
structure WordOk (w : Bs) : Prop where
 ne : w ≠ []
 head : ∀ c, w.head? = some c → c ≠ 32 ∧ c ≠ 9
 last : ∀ c, w.getLast? = some c → c ≠ 32
 nl : 10 ∉ w
 bare : ∀ s m i r, s.drop i = w ++ r → openB (prevL s i) = true → i + w.length ≤ s.length → BareAt s m (i + w.length) → BareAt s m i
theorem WordOk.plain {w : Bs} (hne : w ≠ []) (h : ∀ c ∈ w, okB c = true ∧ c ≠ 32 ∧ c ≠ 9 ∧ c ≠ 10) : WordOk w where
 ne := hne
 head := fun c hc => by
  have := h c (List.mem_of_mem_head? hc)
  exact ⟨this.2.1, this.2.2.1⟩
 last := fun c hc => (h c (List.mem_of_getLast? hc)).2.1
 nl := fun hm => (h 10 hm).2.2.2 rfl
 bare := fun s m i r hd _ _ hb => BareAt.run hd (fun c hc => (h c hc).1) hb
theorem quoteC_bytes (c : UInt8) : ∀ d ∈ (quoteC c).data.toList, d ≠ 10 := by
 intro d hd
 unfold quoteC at hd
 split at hd
 ·rcases List.mem_cons.1 hd with rfl | hd
  ·decide
  ·rw [List.mem_singleton.1 hd]; decide
 ·rename_i h10
  split at hd
  ·rcases List.mem_cons.1 hd with rfl | hd
   ·decide
   ·rw [List.mem_singleton.1 hd]; decide
  ·split at hd
   ·rcases List.mem_cons.1 hd with rfl | hd
    ·decide
    ·rw [List.mem_singleton.1 hd]; exact h10
   ·rw [List.mem_singleton.1 hd]; exact h10
theorem WordOk.quote (s : ByteArray) : WordOk (quoteB s).data.toList where
 ne := by rw [quoteB_list]; simp
 head := fun c hc => by rw [quoteB_list] at hc; cases hc; decide
 last := fun c hc => by
  rw [quoteB_list, ← List.cons_append] at hc
  rw [List.getLast?_append] at hc
  cases hc
  decide
 nl := fun hm => by
  rw [quoteB_list] at hm
  rcases List.mem_cons.1 hm with h | hm
  ·cases h
  ·rcases List.mem_append.1 hm with hm | hm
   ·obtain ⟨c, _, hc⟩ := List.mem_flatMap.1 hm
    exact quoteC_bytes c 10 hc rfl
   ·cases List.mem_singleton.1 hm
 bare := fun t m i r hd ho hi hb => BareAt.quote hd (unq_quote s r) (by rw [quoteB_list]; rfl) ho hi hb
def prB (v : V) : ByteArray := if v.kind = 1 then (if v.b = true then wTrue else wFalse) else if v.kind = 2 then itB v.n else if v.kind = 3 then wordB v.s else if v.kind = 4 then ⟨#[91, 93]⟩ else if v.kind = 5 then ⟨#[123, 125]⟩ else wNull
def prL (v : V) : Bs := (prB v).data.toList
def wdL (s : ByteArray) : Bs := (wordB s).data.toList
theorem bare_byte {c : UInt8} (h : (letN c.toNat || moreN c.toNat) = true) : wB c = true ∧ c ≠ 9 ∧ c ≠ 10 := by
 have key : ∀ k : Fin 256, ((letN (UInt8.ofNat k.val).toNat || moreN (UInt8.ofNat k.val).toNat) = true → (wB (UInt8.ofNat k.val) && !(UInt8.ofNat k.val == 9) && !(UInt8.ofNat k.val == 10)) = true) := by decide +kernel
 have := key ⟨c.toNat, c.toNat_lt⟩
 simp only [UInt8.ofNat_toNat] at this
 simpa [and_assoc] using this h
theorem let_byte {c : UInt8} (h : letN c.toNat = true) : c ≠ 45 ∧ okD c = false := by
 have key : ∀ k : Fin 256, (letN (UInt8.ofNat k.val).toNat = true → (!(UInt8.ofNat k.val == 45) && !okD (UInt8.ofNat k.val)) = true) := by decide +kernel
 have := key ⟨c.toNat, c.toNat_lt⟩
 simp only [UInt8.ofNat_toNat] at this
 simpa using this h
theorem bare_facts {s : ByteArray} (h : bareB s = true) : bareWord s = false ∧ ∃ c l, s.data.toList = c :: l ∧ letN c.toNat = true ∧ ∀ d ∈ s.data.toList, (letN d.toNat || moreN d.toNat) = true := by
 unfold bareB at h
 rw [Bool.and_eq_true, decide_eq_true_eq] at h
 obtain ⟨h1, h2⟩ := h
 have h1 : bareWord s = false := by simpa using h1
 refine ⟨h1, ?_⟩
 have h0 : s.size ≠ 0 := fun e => by
  unfold bareWord at h1
  rw [decide_eq_true e] at h1
  simp at h1
 have hat : ∀ k (hk : k < s.size), s.data.toList[k]? = some s[k] := fun k hk => by rw [List.getElem?_eq_getElem (show k < s.data.toList.length from hk)]; rfl
 cases hl : s.data.toList with
 | nil =>
  have : s.data.toList.length = s.size := rfl
  rw [hl] at this
  exact absurd this.symm h0
 | cons c l =>
  have hc := hat 0 (by omega)
  rw [hl] at hc
  injection hc with hc
  refine ⟨c, l, rfl, ?_, fun d hd => ?_⟩
  ·have := h2 0 (by omega)
   rw [← hc] at this
   simpa [bareAt] using this
  ·rw [← hl] at hd
   obtain ⟨k, hk⟩ := List.getElem?_of_mem hd
   have hk2 : k < s.size := (List.getElem?_eq_some_iff.1 hk).1
   have := h2 k hk2
   rw [hat k hk2] at hk
   injection hk with hk
   rw [hk] at this
   unfold bareAt at this
   cases hx : letN d.toNat with
   | true => rfl
   | false => rw [hx] at this; simp only [Bool.false_or, Bool.and_eq_true] at this; simpa using this.2
theorem bare_scal {s : ByteArray} (h : bareB s = true) : scalP s = (V.str s, 0) := by
 obtain ⟨hw, c, l, hcl, hc, _⟩ := bare_facts h
 obtain ⟨h45, hD⟩ := let_byte hc
 unfold bareWord at hw
 simp only [Bool.or_eq_false_iff, decide_eq_false_iff_not] at hw
 obtain ⟨⟨⟨w1, w2⟩, w3⟩, w4⟩ := hw
 have nn : ¬ (s = ⟨#[]⟩ ∨ s = ⟨#[126]⟩ ∨ s = wNull) := by
  rintro (e | e | e)
  ·rw [e] at hcl; cases hcl
  ·rw [e] at hcl; cases hcl; cases hc
  ·exact w2 e
 have nb : ¬ (s = wTrue ∨ s = wFalse) := by
  rintro (e | e)
  ·exact w3 e
  ·exact w4 e
 have hB : hasB s ⟨#[45]⟩ = false := by rw [hasB_head hcl, decide_eq_false h45]
 have hN : numB s = false := by
  have e : cutS s ⟨#[45]⟩ = s := by rw [cutS, hB, if_neg (by decide)]
  rw [numB, e, allB, hcl, List.all_cons, hD]
  rfl
 rw [scalP, if_neg nn, if_neg nb, if_pos hN]
structure LeafOk (v : V) : Prop where
 w : WordOk (prL v)
 inl : inlineL (prL v) = (v, 0)
 spl : splitL (prL v) = none
 item : isItem (prL v) = false
 dash : ∀ t, prL v ≠ 45 :: 45 :: t
theorem item_wB {w : Bs} (h : ∀ c ∈ w, wB c = true) (h1 : w ≠ [45]) : isItem w = false := by
 unfold isItem
 rw [Bool.or_eq_false_iff]
 refine ⟨by simpa using h1, ?_⟩
 cases hp : [45, 32].isPrefixOf w with
 | false => rfl
 | true =>
  obtain ⟨t, ht⟩ := List.isPrefixOf_iff_prefix.1 hp
  exact absurd (h 32 (by rw [← ht]; simp)) (by decide)
theorem split_wB {w : Bs} (h : ∀ c ∈ w, wB c = true) : splitL w = none := by
 have h58 := wB_not h (d := 58) (by decide)
 have hq : quoted w = false := by
  cases w with
  | nil => rfl
  | cons c t => exact wB_isQ (h c (by simp))
 unfold splitL
 rw [if_neg (by rw [hq]; simp), noColon h58, if_pos (by decide), no_suff h58, if_neg (by simp)]
theorem inline_wB {w : Bs} (hne : w ≠ []) (h : ∀ c ∈ w, wB c = true) {v : V} (hs : scalP (toB w) = (v, 0)) : inlineL w = (v, 0) := by
 have h1 := one_word (n := 2 * w.length) (ends := []) (r := []) hne h (by unfold endAt; rw [if_pos rfl, List.append_nil])
 rw [List.append_nil, hs] at h1
 unfold inlineL
 rw [h1]
 simp
theorem leaf_wB {v : V} (hne : prL v ≠ []) (h : ∀ c ∈ prL v, wB c = true ∧ c ≠ 9 ∧ c ≠ 10) (h1 : prL v ≠ [45]) (h2 : ∀ t, prL v ≠ 45 :: 45 :: t) (hs : scalP (toB (prL v)) = (v, 0)) : LeafOk v where
 w := WordOk.plain hne fun c hc => ⟨wB_okB (h c hc).1, wB_ne (h c hc).1 (by decide), (h c hc).2.1, (h c hc).2.2⟩
 inl := inline_wB hne (fun c hc => (h c hc).1) hs
 spl := split_wB fun c hc => (h c hc).1
 item := item_wB (fun c hc => (h c hc).1) h1
 dash := h2
theorem leaf_int (n : Int) (h1 : -9223372036854775808 ≤ n) (h2 : n ≤ 9223372036854775807) : LeafOk (V.int n) := by
 obtain ⟨hne, hall⟩ := itoa_facts n
 have e : prL (V.int n) = Lib.itoa n := rfl
 refine leaf_wB (by rw [e]; exact hne) (fun c hc => ?_) ?_ (fun t h => ?_) ?_
 ·rw [e] at hc
  have := dig_wB (hall c hc)
  exact ⟨this.1, this.2.2, this.2.1⟩
 ·rw [e]
  intro h
  obtain ⟨_, _, f3⟩ := decD_facts n.natAbs n.natAbs (Nat.le_refl _)
  obtain ⟨f1, _, _⟩ := decD_facts n.natAbs n.natAbs (Nat.le_refl _)
  unfold Lib.itoa at h
  split at h
  ·injection h with _ h
   exact f3 h
  ·rename_i hn
   rw [show n.toNat = n.natAbs by omega] at h
   have := f1 45 (by rw [h]; simp)
   exact absurd this (by decide)
 ·rw [e] at h
  obtain ⟨f1, _, _⟩ := decD_facts n.natAbs n.natAbs (Nat.le_refl _)
  unfold Lib.itoa at h
  split at h
  ·injection h with _ h
   exact absurd (f1 45 (by rw [h]; simp)) (by decide)
  ·rename_i hn
   rw [show n.toNat = n.natAbs by omega] at h
   exact absurd (f1 45 (by rw [h]; simp)) (by decide)
 ·rw [e]
  exact scal_dig n h1 h2
theorem leaf_str (s : ByteArray) : LeafOk (V.str s) := by
 have e : prL (V.str s) = (wordB s).data.toList := rfl
 cases hb : bareB s with
 | true =>
  have e : prL (V.str s) = s.data.toList := by rw [e, wordB, hb, if_pos rfl]
  obtain ⟨_, c, l, hcl, hc, hall⟩ := bare_facts hb
  refine leaf_wB (by rw [e, hcl]; simp) (fun d hd => ?_) ?_ (fun t h => by rw [e, hcl] at h; injection h with h _; exact (let_byte hc).1 h) ?_
  ·rw [e] at hd
   exact bare_byte (hall d hd)
  ·rw [e, hcl]
   intro h
   injection h with h _
   exact (let_byte hc).1 h
  ·rw [e, toB_eta]
   exact bare_scal hb
 | false =>
  have e : prL (V.str s) = (quoteB s).data.toList := by rw [e, wordB, hb, if_neg (by decide)]
  have hu := unq_quote s []
  rw [List.append_nil] at hu
  have hl := quoteB_list s
  refine ⟨by rw [e]; exact WordOk.quote s, ?_, ?_, ?_, fun t h => by rw [e, hl] at h; cases h⟩
  ·rw [e]
   have h1 : flowF (2 * (quoteB s).data.toList.length + 1) (.one []) (quoteB s).data.toList = (V.str s, [], 0) := by
    rw [oneK_eq, hl, tl_of (by decide), oneK, if_neg (by decide), if_neg (by decide), if_pos (by decide), ← hl, hu]
    simp only
    rw [toB_eta]
    rfl
   unfold inlineL
   rw [h1]
   simp
  ·rw [e]
   unfold splitL
   rw [if_pos (by rw [hl]; rfl), hu]
  ·rw [e, hl]
   simp [isItem, List.isPrefixOf]
theorem leaf_null : LeafOk V.null := leaf_wB (by decide) (by decide) (by decide) (fun t h => by cases h) (by kernel_rfl)
theorem leaf_bool (b : Bool) : LeafOk (V.bool b) := by
 cases b
 ·exact leaf_wB (by decide) (by decide) (by decide) (fun t h => by cases h) (by kernel_rfl)
 ·exact leaf_wB (by decide) (by decide) (by decide) (fun t h => by cases h) (by kernel_rfl)
theorem leaf_list : LeafOk (vList []) := ⟨WordOk.plain (by decide) (by decide), by kernel_rfl, by kernel_rfl, by kernel_rfl, fun t h => by cases h⟩
theorem leaf_map : LeafOk (vMap []) := ⟨WordOk.plain (by decide) (by decide), by kernel_rfl, by kernel_rfl, by kernel_rfl, fun t h => by cases h⟩
theorem index_colon {w : Bs} (r : Bs) (h : 58 ∉ w) : Lib.index (w ++ 58 :: 32 :: r) [58, 32] = w.length := by
 induction w with
 | nil => simp [Lib.index, List.isPrefixOf]
 | cons b l ih =>
  simp only [List.mem_cons, not_or] at h
  rw [List.cons_append, Lib.index, ih h.2, if_neg, if_neg]
  ·simp
  ·simp
  ·intro hp
   simp only [List.isPrefixOf, Bool.and_eq_true, beq_iff_eq] at hp
   exact h.1 hp.1
theorem index_last {w : Bs} (h : 58 ∉ w) : Lib.index (w ++ [58]) [58, 32] = -1 := by
 induction w with
 | nil => rfl
 | cons b l ih =>
  simp only [List.mem_cons, not_or] at h
  rw [List.cons_append, Lib.index, ih h.2, if_neg]
  ·rfl
  ·intro hp
   simp only [List.isPrefixOf, Bool.and_eq_true, beq_iff_eq] at hp
   exact h.1 hp.1
structure KeyOk (y : ByteArray) : Prop where
 w : WordOk (wdL y)
 head : ∀ c, (wdL y).head? = some c → c ≠ 45
 spl : ∀ r, r ≠ [] → (∀ c, r.head? = some c → c ≠ 32) → splitL (wdL y ++ 58 :: 32 :: r) = some (y.data.toList, r)
 spl0 : splitL (wdL y ++ [58]) = some (y.data.toList, [])
theorem key_ok (y : ByteArray) : KeyOk y := by
 cases hb : bareB y with
 | true =>
  have e : wdL y = y.data.toList := by rw [wdL, wordB, hb, if_pos rfl]
  obtain ⟨_, c, l, hcl, hc, hall⟩ := bare_facts hb
  have hw : ∀ d ∈ y.data.toList, wB d = true ∧ d ≠ 9 ∧ d ≠ 10 := fun d hd => bare_byte (hall d hd)
  have hwb : ∀ d ∈ y.data.toList, wB d = true := fun d hd => (hw d hd).1
  have h58 := wB_not hwb (d := 58) (by decide)
  have hcw := hwb c (by rw [hcl]; simp)
  have htr := tr_word hwb
  have hne : y.data.toList ≠ [] := by rw [hcl]; simp
  have hodd : oddL y.data.toList = false := by
   rw [hcl]
   have := hcw
   simp only [wB, Bool.and_eq_true, Bool.not_eq_true'] at this
   exact this.1
  have hq : ∀ r, quoted (y.data.toList ++ r) = false := fun r => by rw [hcl]; exact wB_isQ hcw
  refine ⟨by rw [e]; exact WordOk.plain hne fun d hd => ⟨wB_okB (hw d hd).1, wB_ne (hw d hd).1 (by decide), (hw d hd).2⟩, fun d hd => ?_, fun r hr hrh => ?_, ?_⟩
  ·rw [e, hcl] at hd
   cases hd
   exact (let_byte hc).1
  ·rw [e]
   have htl : tl (32 :: r) = r := by
    cases r with
    | nil => exact absurd rfl hr
    | cons d t => exact tl_pad 1 (hrh d rfl)
   have hi := index_colon r h58
   generalize y.data.toList = w at *
   unfold splitL
   rw [if_neg (by rw [hq]; simp), hi, if_neg (by omega)]
   simp only [Int.toNat_natCast]
   rw [List.take_left' rfl, htr, if_neg (by simp [hne, hodd]), show w ++ 58 :: 32 :: r = (w ++ [58]) ++ 32 :: r by simp, List.drop_left' (by simp), htl]
  ·rw [e]
   have hi := index_last h58
   generalize y.data.toList = w at *
   unfold splitL
   have hsu : Lib.hasSuffix (w ++ [58]) [58] = true := List.isSuffixOf_iff_suffix.2 ⟨w, rfl⟩
   rw [if_neg (by rw [hq]; simp), hi, if_pos (by decide), if_pos hsu]
   have ht : (w ++ [58]).take ((w ++ [58]).length - 1) = w := by simp
   rw [ht, htr, if_neg (by simp [hne, hodd])]
 | false =>
  have e : wdL y = (quoteB y).data.toList := by rw [wdL, wordB, hb, if_neg (by decide)]
  have hl := quoteB_list y
  have hq : ∀ r, quoted ((quoteB y).data.toList ++ r) = true := fun r => by rw [hl]; rfl
  refine ⟨by rw [e]; exact WordOk.quote y, fun d hd => ?_, fun r hr hrh => ?_, ?_⟩
  ·rw [e, hl] at hd
   cases hd
   decide
  ·rw [e]
   have htl : tl (32 :: r) = r := by
    cases r with
    | nil => exact absurd rfl hr
    | cons d t => exact tl_pad 1 (hrh d rfl)
   unfold splitL
   rw [if_pos (hq _), unq_quote]
   simp [htl]
  ·rw [e]
   unfold splitL
   rw [if_pos (hq _), unq_quote]
   simp
end Go.Proofs.YtnpkejnaeemgjaaGreatDoor
