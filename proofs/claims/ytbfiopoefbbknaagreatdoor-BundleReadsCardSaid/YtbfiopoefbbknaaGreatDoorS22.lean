/-
  The texts that the claim wants, one behind the other: part 22.
-/
import Derived.Test.YtbfiopoefbbknaaGreatDoorS21
import Derived.Lib.ItoaLen
set_option linter.unusedSimpArgs false
set_option linter.unusedVariables false
namespace Go.Proofs.YtbfiopoefbbknaaGreatDoor
open Go.RowKit
theorem itB_list (n : Int) : (itB n).data.toList = Lib.itoa n := rfl
theorem itoa_facts (n : Int) : (Lib.itoa n ≠ []) ∧ ∀ c ∈ Lib.itoa n, c = 45 ∨ okD c = true := by
 obtain ⟨f1, _, f3⟩ := decD_facts n.natAbs n.natAbs (Nat.le_refl _)
 unfold Lib.itoa
 split
 ·refine ⟨by simp, fun c hc => ?_⟩
  rcases List.mem_cons.1 hc with rfl | hc
  ·exact .inl rfl
  ·exact .inr (f1 c hc)
 ·rename_i hn
  rw [show n.toNat = n.natAbs by omega]
  exact ⟨f3, fun c hc => .inr (f1 c hc)⟩
theorem dig_wB {c : UInt8} (h : c = 45 ∨ okD c = true) : wB c = true ∧ c ≠ 10 ∧ c ≠ 9 := by
 have key : ∀ k : Fin 256, ((UInt8.ofNat k.val == 45 || okD (UInt8.ofNat k.val)) = true → (wB (UInt8.ofNat k.val) && !(UInt8.ofNat k.val == 10) && !(UInt8.ofNat k.val == 9)) = true) := by decide +kernel
 have := key ⟨c.toNat, c.toNat_lt⟩
 simp only [UInt8.ofNat_toNat] at this
 have := this (by rcases h with rfl | h; rfl; rw [h]; simp)
 simpa [and_assoc] using this
end Go.Proofs.YtbfiopoefbbknaaGreatDoor
/-
 YamlWrong, walked: it answers true.
-/
namespace Go.Proofs.YtbfiopoefbbknaaGreatDoor
open Go.RowKit
theorem ba_app_list (a b : ByteArray) : (a ++ b).data.toList = a.data.toList ++ b.data.toList := by simp
theorem take_bytes {s : ByteArray} {k : Nat} (h : k < s.size) : s.data.toList.take (k + 1) = s.data.toList.take k ++ [s[k]] := by
 have h2 : s.data.toList[k]? = some s[k] := by rw [List.getElem?_eq_getElem (show k < s.data.toList.length from h)]; rfl
 exact take_snoc h2
theorem quoteP_list (s : ByteArray) : ∀ k, k ≤ s.size → (quoteP s k).data.toList = 34 :: (s.data.toList.take k).flatMap fun c => (quoteC c).data.toList := by
 intro k
 induction k with
 | zero => intro _; rfl
 | succ k ih =>
  intro h
  rw [quoteP, byte_at (show k < s.size by omega), ba_app_list, ih (by omega), take_bytes (show k < s.size by omega), List.flatMap_append]
  simp
theorem quoteB_list (s : ByteArray) : (quoteB s).data.toList = 34 :: ((s.data.toList.flatMap fun c => (quoteC c).data.toList) ++ [34]) := by
 rw [quoteB, ba_app_list, quoteP_list s s.size (Nat.le_refl _), List.take_of_length_le (show s.data.toList.length ≤ s.size from Nat.le_refl _)]
 rfl
theorem dbl_esc (d : UInt8) (l out : List UInt8) : dbl (92 :: d :: l) out = if d = 110 then dbl l (out ++ [10]) else if d = 116 then dbl l (out ++ [9]) else if d = 34 ∨ d = 92 then dbl l (out ++ [d]) else none := by
 rw [dbl_cons, if_neg (by decide), if_pos rfl]
theorem dbl_quoteR (r : Bs) : ∀ (l out : Bs), dbl ((l.flatMap fun c => (quoteC c).data.toList) ++ 34 :: r) out = some (out ++ l, r)
 | [], out => by
  show dbl (34 :: r) out = _
  rw [dbl_cons, if_pos rfl, List.append_nil]
 | c :: l, out => by
  rw [List.flatMap_cons, List.append_assoc]
  by_cases h10 : c = 10
  ·subst h10
   show dbl (92 :: 110 :: ((l.flatMap fun c => (quoteC c).data.toList) ++ 34 :: r)) out = _
   rw [dbl_esc, if_pos rfl, dbl_quoteR r l, List.append_assoc]; rfl
  by_cases h9 : c = 9
  ·subst h9
   show dbl (92 :: 116 :: ((l.flatMap fun c => (quoteC c).data.toList) ++ 34 :: r)) out = _
   rw [dbl_esc, if_neg (by decide), if_pos rfl, dbl_quoteR r l, List.append_assoc]; rfl
  by_cases h34 : c = 34 ∨ c = 92
  ·have e : (quoteC c).data.toList = [92, c] := by rw [quoteC, if_neg h10, if_neg h9, if_pos h34]
   rw [e]
   show dbl (92 :: c :: ((l.flatMap fun c => (quoteC c).data.toList) ++ 34 :: r)) out = _
   rw [dbl_esc, if_neg (by rcases h34 with rfl | rfl <;> decide), if_neg (by rcases h34 with rfl | rfl <;> decide), if_pos h34, dbl_quoteR r l, List.append_assoc]; rfl
  ·have e : (quoteC c).data.toList = [c] := by rw [quoteC, if_neg h10, if_neg h9, if_neg h34]
   rw [e]
   show dbl (c :: ((l.flatMap fun c => (quoteC c).data.toList) ++ 34 :: r)) out = _
   rw [dbl_cons, if_neg (fun e => h34 (.inl e)), if_neg (fun e => h34 (.inr e)), if_neg (fun e => e.elim h10 h9), dbl_quoteR r l, List.append_assoc]; rfl
theorem unq_quote (s : ByteArray) (r : Bs) : unqL ((quoteB s).data.toList ++ r) = some (s.data.toList, r) := by
 rw [quoteB_list, List.cons_append, List.append_assoc, unqL, if_pos rfl]
 exact dbl_quoteR r _ []
def BareAt (s : Bs) (m i : Nat) : Prop := ∀ n, s.length < n + i → bareE s n i = m
abbrev BareOk (s : Bs) (i : Nat) : Prop := BareAt s s.length i
theorem BareOk.nil {s : Bs} {i : Nat} (h : s.drop i = []) : BareOk s i := fun n _ => by
 cases n with
 | zero => rfl
 | succ n => unfold bareE; rw [h]
theorem BareAt.run {s : Bs} {m : Nat} : ∀ {a r : Bs} {i : Nat}, s.drop i = a ++ r → (∀ c ∈ a, okB c = true) → BareAt s m (i + a.length) → BareAt s m i
 | [], r, i, _, _, h => by simpa using h
 | c :: a, r, i, hd, ha, h => fun n hn => by
  have hc := ha c (by simp)
  simp only [okB, Bool.and_eq_true, Bool.not_eq_true'] at hc
  have ih : BareAt s m (i + 1) := BareAt.run (a := a) (r := r) (by rw [← List.drop_drop, hd]; rfl) (fun x hx => ha x (by simp [hx])) (by rw [show i + 1 + a.length = i + (c :: a).length by simp; omega]; exact h)
  have hz := congrArg List.length hd
  rw [List.length_drop, List.length_append, List.length_cons] at hz
  cases n with
  | zero => omega
  | succ n =>
   unfold bareE
   rw [hd]
   simp only [List.cons_append]
   rw [if_neg (by simp [hc.1]), if_neg (by simp [hc.2])]
   exact ih n (by omega)
theorem BareAt.quote {s q x r : Bs} {m i : Nat} (hd : s.drop i = q ++ r) (hu : unqL (q ++ r) = some (x, r)) (hq : quoted q = true) (ho : openB (prevL s i) = true) (hi : i + q.length ≤ s.length) (h : BareAt s m (i + q.length)) : BareAt s m i := fun n hn => by
 cases q with
 | nil => cases hq
 | cons c q =>
  cases n with
  | zero => simp only [List.length_cons] at hi; omega
  | succ n =>
   have hc : isQ c = true := hq
   have h35 : (c == 35) = false := by
    cases h35 : c == 35 with
    | false => rfl
    | true => rw [eq_of_beq h35] at hc; cases hc
   have hlen : s.length - r.length = i + (c :: q).length := by
    have := congrArg List.length hd
    rw [List.length_drop, List.length_append] at this
    omega
   unfold bareE
   rw [hd]
   simp only [List.cons_append]
   rw [if_neg (by simp [h35]), if_pos (by simp [hc, ho])]
   rw [List.cons_append] at hu
   rw [hu]
   simp only
   rw [hlen]
   exact h n (by simp only [List.length_cons]; omega)
theorem bareL_of {s : Bs} {m : Nat} (h : BareAt s m 0) : bareL s = s.take m := by rw [bareL, h _ (by omega)]
structure WordOk (w : Bs) : Prop where
 ne : w ≠ []
 head : ∀ c, w.head? = some c → c ≠ 32 ∧ c ≠ 9
 last : ∀ c, w.getLast? = some c → c ≠ 32
 nl : 10 ∉ w
 bare : ∀ s m i r, s.drop i = w ++ r → openB (prevL s i) = true → i + w.length ≤ s.length → BareAt s m (i + w.length) → BareAt s m i
theorem WordOk.plain {w : Bs} (hne : w ≠ []) (h : ∀ c ∈ w, okB c = true ∧ c ≠ 32 ∧ c ≠ 9 ∧ c ≠ 10) : WordOk w where
 ne := hne
 head := fun c hc => by
  have := h c (List.mem_of_mem_head? hc)
  exact ⟨this.2.1, this.2.2.1⟩
 last := fun c hc => (h c (List.mem_of_getLast? hc)).2.1
 nl := fun hm => (h 10 hm).2.2.2 rfl
 bare := fun s m i r hd _ _ hb => BareAt.run hd (fun c hc => (h c hc).1) hb
theorem quoteC_bytes (c : UInt8) : ∀ d ∈ (quoteC c).data.toList, d ≠ 10 := by
 intro d hd
 unfold quoteC at hd
 split at hd
 ·rcases List.mem_cons.1 hd with rfl | hd
  ·decide
  ·rw [List.mem_singleton.1 hd]; decide
 ·rename_i h10
  split at hd
  ·rcases List.mem_cons.1 hd with rfl | hd
   ·decide
   ·rw [List.mem_singleton.1 hd]; decide
  ·split at hd
   ·rcases List.mem_cons.1 hd with rfl | hd
    ·decide
    ·rw [List.mem_singleton.1 hd]; exact h10
   ·rw [List.mem_singleton.1 hd]; exact h10
theorem WordOk.quote (s : ByteArray) : WordOk (quoteB s).data.toList where
 ne := by rw [quoteB_list]; simp
 head := fun c hc => by rw [quoteB_list] at hc; cases hc; decide
 last := fun c hc => by
  rw [quoteB_list, ← List.cons_append] at hc
  rw [List.getLast?_append] at hc
  cases hc
  decide
 nl := fun hm => by
  rw [quoteB_list] at hm
  rcases List.mem_cons.1 hm with h | hm
  ·cases h
  ·rcases List.mem_append.1 hm with hm | hm
   ·obtain ⟨c, _, hc⟩ := List.mem_flatMap.1 hm
    exact quoteC_bytes c 10 hc rfl
   ·cases List.mem_singleton.1 hm
 bare := fun t m i r hd ho hi hb => BareAt.quote hd (unq_quote s r) (by rw [quoteB_list]; rfl) ho hi hb
def prB (v : V) : ByteArray := if v.kind = 1 then (if v.b = true then wTrue else wFalse) else if v.kind = 2 then itB v.n else if v.kind = 3 then wordB v.s else if v.kind = 4 then ⟨#[91, 93]⟩ else if v.kind = 5 then ⟨#[123, 125]⟩ else wNull
def prL (v : V) : Bs := (prB v).data.toList
def wdL (s : ByteArray) : Bs := (wordB s).data.toList
theorem bare_byte {c : UInt8} (h : (letN c.toNat || moreN c.toNat) = true) : wB c = true ∧ c ≠ 9 ∧ c ≠ 10 := by
 have key : ∀ k : Fin 256, ((letN (UInt8.ofNat k.val).toNat || moreN (UInt8.ofNat k.val).toNat) = true → (wB (UInt8.ofNat k.val) && !(UInt8.ofNat k.val == 9) && !(UInt8.ofNat k.val == 10)) = true) := by decide +kernel
 have := key ⟨c.toNat, c.toNat_lt⟩
 simp only [UInt8.ofNat_toNat] at this
 simpa [and_assoc] using this h
theorem let_byte {c : UInt8} (h : letN c.toNat = true) : c ≠ 45 ∧ okD c = false := by
 have key : ∀ k : Fin 256, (letN (UInt8.ofNat k.val).toNat = true → (!(UInt8.ofNat k.val == 45) && !okD (UInt8.ofNat k.val)) = true) := by decide +kernel
 have := key ⟨c.toNat, c.toNat_lt⟩
 simp only [UInt8.ofNat_toNat] at this
 simpa using this h
theorem bare_facts {s : ByteArray} (h : bareB s = true) : bareWord s = false ∧ ∃ c l, s.data.toList = c :: l ∧ letN c.toNat = true ∧ ∀ d ∈ s.data.toList, (letN d.toNat || moreN d.toNat) = true := by
 unfold bareB at h
 rw [Bool.and_eq_true, decide_eq_true_eq] at h
 obtain ⟨h1, h2⟩ := h
 have h1 : bareWord s = false := by simpa using h1
 refine ⟨h1, ?_⟩
 have h0 : s.size ≠ 0 := fun e => by
  unfold bareWord at h1
  rw [decide_eq_true e] at h1
  simp at h1
 have hat : ∀ k (hk : k < s.size), s.data.toList[k]? = some s[k] := fun k hk => by rw [List.getElem?_eq_getElem (show k < s.data.toList.length from hk)]; rfl
 cases hl : s.data.toList with
 | nil =>
  have : s.data.toList.length = s.size := rfl
  rw [hl] at this
  exact absurd this.symm h0
 | cons c l =>
  have hc := hat 0 (by omega)
  rw [hl] at hc
  injection hc with hc
  refine ⟨c, l, rfl, ?_, fun d hd => ?_⟩
  ·have := h2 0 (by omega)
   rw [← hc] at this
   simpa [bareAt] using this
  ·rw [← hl] at hd
   obtain ⟨k, hk⟩ := List.getElem?_of_mem hd
   have hk2 : k < s.size := (List.getElem?_eq_some_iff.1 hk).1
   have := h2 k hk2
   rw [hat k hk2] at hk
   injection hk with hk
   rw [hk] at this
   unfold bareAt at this
   cases hx : letN d.toNat with
   | true => rfl
   | false => rw [hx] at this; simp only [Bool.false_or, Bool.and_eq_true] at this; simpa using this.2
theorem bare_scal {s : ByteArray} (h : bareB s = true) : scalP s = (V.str s, 0) := by
 obtain ⟨hw, c, l, hcl, hc, _⟩ := bare_facts h
 obtain ⟨h45, hD⟩ := let_byte hc
 unfold bareWord at hw
 simp only [Bool.or_eq_false_iff, decide_eq_false_iff_not] at hw
 obtain ⟨⟨⟨w1, w2⟩, w3⟩, w4⟩ := hw
 have nn : ¬ (s = ⟨#[]⟩ ∨ s = ⟨#[126]⟩ ∨ s = wNull) := by
  rintro (e | e | e)
  ·rw [e] at hcl; cases hcl
  ·rw [e] at hcl; cases hcl; cases hc
  ·exact w2 e
 have nb : ¬ (s = wTrue ∨ s = wFalse) := by
  rintro (e | e)
  ·exact w3 e
  ·exact w4 e
 have hB : hasB s ⟨#[45]⟩ = false := by rw [hasB_head hcl, decide_eq_false h45]
 have hN : numB s = false := by
  have e : cutS s ⟨#[45]⟩ = s := by rw [cutS, hB, if_neg (by decide)]
  rw [numB, e, allB, hcl, List.all_cons, hD]
  rfl
 rw [scalP, if_neg nn, if_neg nb, if_pos hN]
structure LeafOk (v : V) : Prop where
 w : WordOk (prL v)
 inl : inlineL (prL v) = (v, 0)
 spl : splitL (prL v) = none
 item : isItem (prL v) = false
 dash : ∀ t, prL v ≠ 45 :: 45 :: t
theorem item_wB {w : Bs} (h : ∀ c ∈ w, wB c = true) (h1 : w ≠ [45]) : isItem w = false := by
 unfold isItem
 rw [Bool.or_eq_false_iff]
 refine ⟨by simpa using h1, ?_⟩
 cases hp : [45, 32].isPrefixOf w with
 | false => rfl
 | true =>
  obtain ⟨t, ht⟩ := List.isPrefixOf_iff_prefix.1 hp
  exact absurd (h 32 (by rw [← ht]; simp)) (by decide)
theorem split_wB {w : Bs} (h : ∀ c ∈ w, wB c = true) : splitL w = none := by
 have h58 := wB_not h (d := 58) (by decide)
 have hq : quoted w = false := by
  cases w with
  | nil => rfl
  | cons c t => exact wB_isQ (h c (by simp))
 unfold splitL
 rw [if_neg (by rw [hq]; simp), noColon h58, if_pos (by decide), no_suff h58, if_neg (by simp)]
theorem inline_wB {w : Bs} (hne : w ≠ []) (h : ∀ c ∈ w, wB c = true) {v : V} (hs : scalP (toB w) = (v, 0)) : inlineL w = (v, 0) := by
 have h1 := one_word (n := 2 * w.length) (ends := []) (r := []) hne h (by unfold endAt; rw [if_pos rfl, List.append_nil])
 rw [List.append_nil, hs] at h1
 unfold inlineL
 rw [h1]
 simp
theorem leaf_wB {v : V} (hne : prL v ≠ []) (h : ∀ c ∈ prL v, wB c = true ∧ c ≠ 9 ∧ c ≠ 10) (h1 : prL v ≠ [45]) (h2 : ∀ t, prL v ≠ 45 :: 45 :: t) (hs : scalP (toB (prL v)) = (v, 0)) : LeafOk v where
 w := WordOk.plain hne fun c hc => ⟨wB_okB (h c hc).1, wB_ne (h c hc).1 (by decide), (h c hc).2.1, (h c hc).2.2⟩
 inl := inline_wB hne (fun c hc => (h c hc).1) hs
 spl := split_wB fun c hc => (h c hc).1
 item := item_wB (fun c hc => (h c hc).1) h1
 dash := h2
theorem leaf_int (n : Int) (h1 : -9223372036854775808 ≤ n) (h2 : n ≤ 9223372036854775807) : LeafOk (V.int n) := by
 obtain ⟨hne, hall⟩ := itoa_facts n
 have e : prL (V.int n) = Lib.itoa n := rfl
 refine leaf_wB (by rw [e]; exact hne) (fun c hc => ?_) ?_ (fun t h => ?_) ?_
 ·rw [e] at hc
  have := dig_wB (hall c hc)
  exact ⟨this.1, this.2.2, this.2.1⟩
 ·rw [e]
  intro h
  obtain ⟨_, _, f3⟩ := decD_facts n.natAbs n.natAbs (Nat.le_refl _)
  obtain ⟨f1, _, _⟩ := decD_facts n.natAbs n.natAbs (Nat.le_refl _)
  unfold Lib.itoa at h
  split at h
  ·injection h with _ h
   exact f3 h
  ·rename_i hn
   rw [show n.toNat = n.natAbs by omega] at h
   have := f1 45 (by rw [h]; simp)
   exact absurd this (by decide)
 ·rw [e] at h
  obtain ⟨f1, _, _⟩ := decD_facts n.natAbs n.natAbs (Nat.le_refl _)
  unfold Lib.itoa at h
  split at h
  ·injection h with _ h
   exact absurd (f1 45 (by rw [h]; simp)) (by decide)
  ·rename_i hn
   rw [show n.toNat = n.natAbs by omega] at h
   exact absurd (f1 45 (by rw [h]; simp)) (by decide)
 ·rw [e]
  exact scal_dig n h1 h2
theorem leaf_str (s : ByteArray) : LeafOk (V.str s) := by
 have e : prL (V.str s) = (wordB s).data.toList := rfl
 cases hb : bareB s with
 | true =>
  have e : prL (V.str s) = s.data.toList := by rw [e, wordB, hb, if_pos rfl]
  obtain ⟨_, c, l, hcl, hc, hall⟩ := bare_facts hb
  refine leaf_wB (by rw [e, hcl]; simp) (fun d hd => ?_) ?_ (fun t h => by rw [e, hcl] at h; injection h with h _; exact (let_byte hc).1 h) ?_
  ·rw [e] at hd
   exact bare_byte (hall d hd)
  ·rw [e, hcl]
   intro h
   injection h with h _
   exact (let_byte hc).1 h
  ·rw [e, toB_eta]
   exact bare_scal hb
 | false =>
  have e : prL (V.str s) = (quoteB s).data.toList := by rw [e, wordB, hb, if_neg (by decide)]
  have hu := unq_quote s []
  rw [List.append_nil] at hu
  have hl := quoteB_list s
  refine ⟨by rw [e]; exact WordOk.quote s, ?_, ?_, ?_, fun t h => by rw [e, hl] at h; cases h⟩
  ·rw [e]
   have h1 : flowF (2 * (quoteB s).data.toList.length + 1) (.one []) (quoteB s).data.toList = (V.str s, [], 0) := by
    rw [oneK_eq, hl, tl_of (by decide), oneK, if_neg (by decide), if_neg (by decide), if_pos (by decide), ← hl, hu]
    simp only
    rw [toB_eta]
    rfl
   unfold inlineL
   rw [h1]
   simp
  ·rw [e]
   unfold splitL
   rw [if_pos (by rw [hl]; rfl), hu]
  ·rw [e, hl]
   simp [isItem, List.isPrefixOf]
theorem leaf_null : LeafOk V.null := leaf_wB (by decide) (by decide) (by decide) (fun t h => by cases h) (by kernel_rfl)
theorem leaf_bool (b : Bool) : LeafOk (V.bool b) := by
 cases b
 ·exact leaf_wB (by decide) (by decide) (by decide) (fun t h => by cases h) (by kernel_rfl)
 ·exact leaf_wB (by decide) (by decide) (by decide) (fun t h => by cases h) (by kernel_rfl)
theorem leaf_list : LeafOk (vList []) := ⟨WordOk.plain (by decide) (by decide), by kernel_rfl, by kernel_rfl, by kernel_rfl, fun t h => by cases h⟩
theorem leaf_map : LeafOk (vMap []) := ⟨WordOk.plain (by decide) (by decide), by kernel_rfl, by kernel_rfl, by kernel_rfl, fun t h => by cases h⟩
theorem index_colon {w : Bs} (r : Bs) (h : 58 ∉ w) : Lib.index (w ++ 58 :: 32 :: r) [58, 32] = w.length := by
 induction w with
 | nil => simp [Lib.index, List.isPrefixOf]
 | cons b l ih =>
  simp only [List.mem_cons, not_or] at h
  rw [List.cons_append, Lib.index, ih h.2, if_neg, if_neg]
  ·simp
  ·simp
  ·intro hp
   simp only [List.isPrefixOf, Bool.and_eq_true, beq_iff_eq] at hp
   exact h.1 hp.1
theorem index_last {w : Bs} (h : 58 ∉ w) : Lib.index (w ++ [58]) [58, 32] = -1 := by
 induction w with
 | nil => rfl
 | cons b l ih =>
  simp only [List.mem_cons, not_or] at h
  rw [List.cons_append, Lib.index, ih h.2, if_neg]
  ·rfl
  ·intro hp
   simp only [List.isPrefixOf, Bool.and_eq_true, beq_iff_eq] at hp
   exact h.1 hp.1
structure KeyOk (y : ByteArray) : Prop where
 w : WordOk (wdL y)
 head : ∀ c, (wdL y).head? = some c → c ≠ 45
 spl : ∀ r, r ≠ [] → (∀ c, r.head? = some c → c ≠ 32) → splitL (wdL y ++ 58 :: 32 :: r) = some (y.data.toList, r)
 spl0 : splitL (wdL y ++ [58]) = some (y.data.toList, [])
theorem key_ok (y : ByteArray) : KeyOk y := by
 cases hb : bareB y with
 | true =>
  have e : wdL y = y.data.toList := by rw [wdL, wordB, hb, if_pos rfl]
  obtain ⟨_, c, l, hcl, hc, hall⟩ := bare_facts hb
  have hw : ∀ d ∈ y.data.toList, wB d = true ∧ d ≠ 9 ∧ d ≠ 10 := fun d hd => bare_byte (hall d hd)
  have hwb : ∀ d ∈ y.data.toList, wB d = true := fun d hd => (hw d hd).1
  have h58 := wB_not hwb (d := 58) (by decide)
  have hcw := hwb c (by rw [hcl]; simp)
  have htr := tr_word hwb
  have hne : y.data.toList ≠ [] := by rw [hcl]; simp
  have hodd : oddL y.data.toList = false := by
   rw [hcl]
   have := hcw
   simp only [wB, Bool.and_eq_true, Bool.not_eq_true'] at this
   exact this.1
  have hq : ∀ r, quoted (y.data.toList ++ r) = false := fun r => by rw [hcl]; exact wB_isQ hcw
  refine ⟨by rw [e]; exact WordOk.plain hne fun d hd => ⟨wB_okB (hw d hd).1, wB_ne (hw d hd).1 (by decide), (hw d hd).2⟩, fun d hd => ?_, fun r hr hrh => ?_, ?_⟩
  ·rw [e, hcl] at hd
   cases hd
   exact (let_byte hc).1
  ·rw [e]
   have htl : tl (32 :: r) = r := by
    cases r with
    | nil => exact absurd rfl hr
    | cons d t => exact tl_pad 1 (hrh d rfl)
   have hi := index_colon r h58
   generalize y.data.toList = w at *
   unfold splitL
   rw [if_neg (by rw [hq]; simp), hi, if_neg (by omega)]
   simp only [Int.toNat_natCast]
   rw [List.take_left' rfl, htr, if_neg (by simp [hne, hodd]), show w ++ 58 :: 32 :: r = (w ++ [58]) ++ 32 :: r by simp, List.drop_left' (by simp), htl]
  ·rw [e]
   have hi := index_last h58
   generalize y.data.toList = w at *
   unfold splitL
   have hsu : Lib.hasSuffix (w ++ [58]) [58] = true := List.isSuffixOf_iff_suffix.2 ⟨w, rfl⟩
   rw [if_neg (by rw [hq]; simp), hi, if_pos (by decide), if_pos hsu]
   have ht : (w ++ [58]).take ((w ++ [58]).length - 1) = w := by simp
   rw [ht, htr, if_neg (by simp [hne, hodd])]
 | false =>
  have e : wdL y = (quoteB y).data.toList := by rw [wdL, wordB, hb, if_neg (by decide)]
  have hl := quoteB_list y
  have hq : ∀ r, quoted ((quoteB y).data.toList ++ r) = true := fun r => by rw [hl]; rfl
  refine ⟨by rw [e]; exact WordOk.quote y, fun d hd => ?_, fun r hr hrh => ?_, ?_⟩
  ·rw [e, hl] at hd
   cases hd
   decide
  ·rw [e]
   have htl : tl (32 :: r) = r := by
    cases r with
    | nil => exact absurd rfl hr
    | cons d t => exact tl_pad 1 (hrh d rfl)
   unfold splitL
   rw [if_pos (hq _), unq_quote]
   simp [htl]
  ·rw [e]
   unfold splitL
   rw [if_pos (hq _), unq_quote]
   simp
mutual
def linV : V → Nat → List (Nat × Bs)
 | .mk _ _ _ _ l m, k => linL l k ++ linM m k
def linL : List V → Nat → List (Nat × Bs)
 | [], _ => []
 | x :: l, k => (if x.leaf = true then [(k, 45 :: 32 :: prL x)] else (k, [45]) :: linV x (k + 2)) ++ linL l k
def linM : List (ByteArray × V) → Nat → List (Nat × Bs)
 | [], _ => []
 | (y, x) :: m, k => (if x.leaf = true then [(k, wdL y ++ 58 :: 32 :: prL x)] else (k, wdL y ++ [58]) :: linV x (k + 2)) ++ linM m k
end
theorem linV_eq (v : V) (k : Nat) : linV v k = linL v.l k ++ linM v.m k := by cases v; rw [linV]; rfl
theorem linL_cons (x : V) (l : List V) (k : Nat) : linL (x :: l) k = (if x.leaf = true then [(k, 45 :: 32 :: prL x)] else (k, [45]) :: linV x (k + 2)) ++ linL l k := by rw [linL]
theorem linM_cons (y : ByteArray) (x : V) (m : List (ByteArray × V)) (k : Nat) : linM ((y, x) :: m) k = (if x.leaf = true then [(k, wdL y ++ 58 :: 32 :: prL x)] else (k, wdL y ++ [58]) :: linV x (k + 2)) ++ linM m k := by rw [linM]
inductive Fit : V → Prop where
 | leaf {v : V} (hl : v.leaf = true) (h : LeafOk v) : Fit v
 | list {l : List V} (hne : l ≠ []) (h : ∀ x ∈ l, Fit x) : Fit (vList l)
 | map {m : List (ByteArray × V)} (hne : m ≠ []) (hr : Rises m) (h : ∀ p ∈ m, Fit p.2) : Fit (vMap m)
theorem headL {l : List V} (hne : l ≠ []) (k : Nat) (r : List (Nat × Bs)) : ∃ t q, linL l k ++ r = (k, t) :: q ∧ isItem t = true := by
 cases l with
 | nil => exact absurd rfl hne
 | cons x l =>
  rw [linL_cons]
  split
  ·exact ⟨_, _, rfl, rfl⟩
  ·exact ⟨_, _, rfl, rfl⟩
theorem item_key {y : ByteArray} (t : Bs) : isItem (wdL y ++ t) = false := by
 have hk := key_ok y
 have hne := hk.w.ne
 cases hw : wdL y with
 | nil => exact absurd hw hne
 | cons c u =>
  have h45 := hk.head c (by rw [hw]; rfl)
  unfold isItem
  simp [List.isPrefixOf, h45, Ne.symm h45]
theorem headM {m : List (ByteArray × V)} (hne : m ≠ []) (h : ∀ p ∈ m, p.2.leaf = true → LeafOk p.2) (k : Nat) (r : List (Nat × Bs)) : ∃ t q, linM m k ++ r = (k, t) :: q ∧ isItem t = false ∧ (splitL t).isSome = true := by
 cases m with
 | nil => exact absurd rfl hne
 | cons p m =>
  obtain ⟨y, x⟩ := p
  rw [linM_cons]
  split
  ·rename_i hx
   have hl := h (y, x) (by simp) hx
   refine ⟨_, _, rfl, item_key _, ?_⟩
   rw [(key_ok y).spl _ hl.w.ne fun c hc => (hl.w.head c hc).1]
   rfl
  ·refine ⟨_, _, rfl, item_key _, ?_⟩
   rw [(key_ok y).spl0]
   rfl
theorem Fit.leafOk {v : V} (h : Fit v) (hl : v.leaf = true) : LeafOk v := by
 cases h with
 | leaf _ h => exact h
 | list hne _ => cases hx : (‹List V›) <;> simp_all [V.leaf, vList, V.l, V.m]
 | map hne _ _ => cases hx : (‹List (ByteArray × V)›) <;> simp_all [V.leaf, vMap, V.l, V.m]
def HeadLe (p : List (Nat × Bs)) (k : Nat) : Prop := ∀ x, p.head? = some x → x.1 ≤ k
theorem HeadLe.mono {p : List (Nat × Bs)} {k j : Nat} (h : HeadLe p k) (hk : k ≤ j) : HeadLe p j := fun x hx => Nat.le_trans (h x hx) hk
theorem headLe_L (l : List V) (k : Nat) {r : List (Nat × Bs)} (h : HeadLe r k) : HeadLe (linL l k ++ r) k := by
 cases l with
 | nil => exact h
 | cons x l =>
  intro y hy
  obtain ⟨t, q, e, _⟩ := headL (l := x :: l) (by simp) k r
  rw [e] at hy
  cases hy
  exact Nat.le_refl _
theorem headLe_M (m : List (ByteArray × V)) (k : Nat) {r : List (Nat × Bs)} (h : HeadLe r k) : HeadLe (linM m k ++ r) k := by
 cases m with
 | nil => exact h
 | cons p m =>
  obtain ⟨y, x⟩ := p
  intro z hz
  rw [linM_cons] at hz
  split at hz
  ·cases hz; exact Nat.le_refl _
  ·cases hz; exact Nat.le_refl _
theorem at_head {st : YR} {x : Nat × Bs} {r : List (Nat × Bs)} (h : st.l.drop st.at_ = x :: r) : st.l[st.at_]? = some x ∧ st.l.drop (st.at_ + 1) = r := by
 refine ⟨?_, ?_⟩
 ·rw [← List.head?_drop, h]; rfl
 ·rw [← List.drop_drop, h]; rfl
theorem deep_no {st : YR} {r : List (Nat × Bs)} {k : Nat} (h : st.l.drop st.at_ = r) (hr : HeadLe r k) : st.deep k = false := by
 unfold YR.deep
 cases hx : st.l[st.at_]? with
 | none => rfl
 | some x =>
  have h2 : r.head? = some x := by rw [← h, List.head?_drop]; exact hx
  exact decide_eq_false (by have := hr x h2; omega)
def Reads (N : Nat) : Prop := ∀ (v : V) (k n : Nat) (st : YR) (r : List (Nat × Bs)), v.size ≤ N → Fit v → v.leaf = false → st.l.drop st.at_ = linV v k ++ r → HeadLe r (k - 1) → (r ≠ [] → 0 < k) → 3 * st.w + 2 ≤ n →
 ∃ st', readF n .block k st = (v, st') ∧ st'.l.drop st'.at_ = r ∧ st'.bad = st.bad
theorem w_of {st : YR} {r : List (Nat × Bs)} (h : st.l.drop st.at_ = r) : st.w = wAt r := by rw [YR.w, h]
theorem wAt_cons (x : Nat × Bs) (r : List (Nat × Bs)) : wAt (x :: r) = x.2.length + 1 + wAt r := by simp [wAt]
theorem read_word {v : V} (hL : LeafOk v) (k n : Nat) {st : YR} {j : Nat} {r : List (Nat × Bs)} (h : st.l.drop st.at_ = (j, prL v) :: r) (hr : HeadLe r k) : readF (n + 1) .block k st = (v, ⟨st.l, st.at_ + 1, st.bad⟩) := by
 obtain ⟨h1, h2⟩ := at_head h
 have hd := deep_no (st := ⟨st.l, st.at_ + 1, st.bad⟩) h2 hr
 have hi : inlS (prL v) ⟨st.l, st.at_ + 1, st.bad⟩ = (v, ⟨st.l, st.at_ + 1, st.bad⟩) := by
  unfold inlS
  rw [hL.inl]
  simp
 unfold readF
 rw [h1]
 simp only [hL.item, hL.spl, Option.isSome_none, Bool.false_eq_true, if_false, hi, hd]
theorem below_of {N : Nat} (hN : Reads N) {x : V} (hs : x.size ≤ N) (hf : Fit x) (hx : x.leaf = false) (k n : Nat) {st : YR} {r : List (Nat × Bs)} (h : st.l.drop st.at_ = linV x (k + 2) ++ r) (hr : HeadLe r k) (hn : 3 * st.w + 3 ≤ n) :
  ∃ st', readF n .below k st = (x, st') ∧ st'.l.drop st'.at_ = r ∧ st'.bad = st.bad := by
 obtain ⟨n, rfl⟩ : ∃ m, n = m + 1 := ⟨n - 1, by omega⟩
 obtain ⟨st', h1, h2⟩ := hN x (k + 2) n st r hs hf hx h (hr.mono (by omega)) (fun _ => by omega) (by omega)
 have hh : ∃ t, st.l[st.at_]? = some (k + 2, t) := by
  have hne : ∃ t q, linV x (k + 2) ++ r = (k + 2, t) :: q := by
   cases hf with
   | leaf hl _ => rw [hl] at hx; cases hx
   | @list l hne hl =>
    obtain ⟨t, q, e, _⟩ := headL hne (k + 2) r
    exact ⟨t, q, by rw [linV_eq]; show (linL l (k + 2) ++ linM [] (k + 2)) ++ r = _; rw [linM, List.append_nil]; exact e⟩
   | @map m hne hrs hm =>
    obtain ⟨t, q, e, _⟩ := headM hne (fun p hp hl => (hm p hp).leafOk hl) (k + 2) r
    exact ⟨t, q, by rw [linV_eq]; show (linL [] (k + 2) ++ linM m (k + 2)) ++ r = _; rw [linL, List.nil_append]; exact e⟩
  obtain ⟨t, q, e⟩ := hne
  rw [e] at h
  exact ⟨t, (at_head h).1⟩
 obtain ⟨t, ht⟩ := hh
 refine ⟨st', ?_, h2⟩
 unfold readF
 rw [ht]
 simp only
 rw [if_pos (by omega)]
 exact h1
theorem list_of {N : Nat} (hN : Reads N) : ∀ (l : List V) (out : List V) (k n : Nat) (st : YR) (r : List (Nat × Bs)), (∀ x ∈ l, Fit x ∧ x.size ≤ N) → st.l.drop st.at_ = linL l k ++ r → HeadLe r (k - 1) → (r ≠ [] → 0 < k) → 3 * st.w + 1 ≤ n →
  ∃ st', readF n (.list out) k st = (vList (out ++ l), st') ∧ st'.l.drop st'.at_ = r ∧ st'.bad = st.bad
 | [], out, k, n, st, r, _, h, hr, hk, hn => by
  obtain ⟨n, rfl⟩ : ∃ m, n = m + 1 := ⟨n - 1, by omega⟩
  rw [linL, List.nil_append] at h
  refine ⟨st, ?_, h, rfl⟩
  rw [List.append_nil]
  unfold readF
  cases hx : st.l[st.at_]? with
  | none => rfl
  | some x =>
   obtain ⟨j, t⟩ := x
   have h2 : r.head? = some (j, t) := by rw [← h, List.head?_drop]; exact hx
   have h3 := hr _ h2
   have h4 := hk (by intro e; rw [e] at h2; cases h2)
   simp only at h3
   simp only
   rw [if_neg (by omega)]
 | x :: l, out, k, n, st, r, hall, h, hr, hk, hn => by
  obtain ⟨n, rfl⟩ : ∃ m, n = m + 1 := ⟨n - 1, by omega⟩
  obtain ⟨hf, hs⟩ := hall x (by simp)
  have hw := w_of h
  rw [linL_cons, List.append_assoc] at h hw
  have hnext : HeadLe (linL l k ++ r) k := headLe_L l k (hr.mono (by omega))
  cases hx : x.leaf with
  | true =>
   have hL := hf.leafOk hx
   rw [hx, if_pos rfl, List.singleton_append] at h hw
   obtain ⟨h1, h2⟩ := at_head h
   have hlt := (List.getElem?_eq_some_iff.1 h1).1
   rw [wAt_cons] at hw
   simp only [List.length_cons] at hw
   have hit : isItem (45 :: 32 :: prL x) = true := rfl
   have htl : tl ((45 :: 32 :: prL x).drop 1) = prL x := by
    obtain ⟨c, t, hct⟩ : ∃ c t, prL x = c :: t := by
     cases hp : prL x with
     | nil => exact absurd hp hL.w.ne
     | cons c t => exact ⟨c, t, rfl⟩
    rw [hct]
    exact tl_pad 1 (hL.w.head c (by rw [hct]; rfl)).1
   obtain ⟨m, rfl⟩ : ∃ m, n = m + 1 := ⟨n - 1, by omega⟩
   have hset : (st.l.set st.at_ (k + 2, prL x)).drop st.at_ = (k + 2, prL x) :: (linL l k ++ r) := by
    rw [drop_at (x := (k + 2, prL x)) (by rw [List.getElem?_set_self hlt]), List.drop_set_of_lt (by omega), h2]
   have hrd := read_word hL (k + 2) m (st := ⟨st.l.set st.at_ (k + 2, prL x), st.at_, st.bad⟩) hset (hnext.mono (by omega))
   have hd2 : (st.l.set st.at_ (k + 2, prL x)).drop (st.at_ + 1) = linL l k ++ r := by rw [List.drop_set_of_lt (by omega), h2]
   have hw2 := w_of (st := ⟨st.l.set st.at_ (k + 2, prL x), st.at_ + 1, st.bad⟩) hd2
   obtain ⟨st', k1, k2, k3⟩ := list_of hN l (out ++ [x]) k (m + 1) ⟨st.l.set st.at_ (k + 2, prL x), st.at_ + 1, st.bad⟩ r (fun y hy => hall y (by simp [hy])) hd2 hr hk (by omega)
   refine ⟨st', ?_, k2, k3⟩
   rw [readF, h1]
   simp only
   rw [if_pos ⟨trivial, hit⟩, htl, if_neg hL.w.ne, show k + (45 :: 32 :: prL x).length - (prL x).length = k + 2 by simp; omega, hrd]
   simp only
   rw [k1, List.append_assoc]
   rfl
  | false =>
   rw [hx, if_neg (by simp), List.cons_append] at h hw
   obtain ⟨h1, h2⟩ := at_head h
   rw [wAt_cons] at hw
   simp only [List.length_cons, List.length_nil] at hw
   have hw2 := w_of (st := ⟨st.l, st.at_ + 1, st.bad⟩) h2
   obtain ⟨st1, j1, j2, j3⟩ := below_of hN hs hf hx k n (st := ⟨st.l, st.at_ + 1, st.bad⟩) h2 hnext (by omega)
   have hw3 := w_of j2
   have hle : wAt (linL l k ++ r) ≤ wAt (linV x (k + 2) ++ (linL l k ++ r)) := by unfold wAt; rw [List.map_append (l₁ := linV x (k + 2)), List.sum_append]; omega
   obtain ⟨st', k1, k2, k3⟩ := list_of hN l (out ++ [x]) k n st1 r (fun y hy => hall y (by simp [hy])) j2 hr hk (by omega)
   refine ⟨st', ?_, k2, k3.trans j3⟩
   rw [readF, h1]
   simp only
   rw [if_pos ⟨trivial, by rfl⟩, show tl (([45] : Bs).drop 1) = [] from rfl, if_pos rfl, j1]
   simp only
   rw [k1, List.append_assoc]
   rfl
theorem minsert_end {y : ByteArray} (x : V) : ∀ {out : List (ByteArray × V)}, (∀ p ∈ out, klt p.1 y) → minsert y x out = out ++ [(y, x)]
 | [], _ => rfl
 | (k, z) :: out, h => by
  rw [minsert, if_pos (cmpS_lt.2 (h (k, z) (by simp))), minsert_end x fun p hp => h p (by simp [hp])]
  rfl
theorem mfind_end {y : ByteArray} : ∀ {out : List (ByteArray × V)}, (∀ p ∈ out, klt p.1 y) → mfind y out = none
 | [], _ => rfl
 | (k, z) :: out, h => by
  rw [mfind, if_neg (klt_ne (h (k, z) (by simp))), mfind_end fun p hp => h p (by simp [hp])]
theorem map_of {N : Nat} (hN : Reads N) : ∀ (m out : List (ByteArray × V)) (k n : Nat) (st : YR) (r : List (Nat × Bs)), (∀ p ∈ m, Fit p.2 ∧ p.2.size ≤ N) → Rises (out ++ m) → st.l.drop st.at_ = linM m k ++ r → HeadLe r (k - 1) → (r ≠ [] → 0 < k) → 3 * st.w + 1 ≤ n →
  ∃ st', readF n (.pairs out) k st = (vMap (out ++ m), st') ∧ st'.l.drop st'.at_ = r ∧ st'.bad = st.bad
 | [], out, k, n, st, r, _, _, h, hr, hk, hn => by
  obtain ⟨n, rfl⟩ : ∃ m, n = m + 1 := ⟨n - 1, by omega⟩
  rw [linM, List.nil_append] at h
  refine ⟨st, ?_, h, rfl⟩
  rw [List.append_nil]
  unfold readF
  cases hx : st.l[st.at_]? with
  | none => rfl
  | some x =>
   obtain ⟨j, t⟩ := x
   have h2 : r.head? = some (j, t) := by rw [← h, List.head?_drop]; exact hx
   have h3 := hr _ h2
   have h4 := hk (by intro e; rw [e] at h2; cases h2)
   simp only at h3
   simp only
   rw [if_neg (by omega)]
 | (y, x) :: m, out, k, n, st, r, hall, hri, h, hr, hk, hn => by
  obtain ⟨n, rfl⟩ : ∃ m, n = m + 1 := ⟨n - 1, by omega⟩
  obtain ⟨hf, hs⟩ := hall (y, x) (by simp)
  simp only at hf hs
  have hw := w_of h
  rw [linM_cons, List.append_assoc] at h hw
  have hnext : HeadLe (linM m k ++ r) k := headLe_M m k (hr.mono (by omega))
  have hlt : ∀ p ∈ out, klt p.1 y := fun p hp => (List.pairwise_append.1 hri).2.2 p hp (y, x) (by simp)
  have hins := minsert_end x hlt
  have hfind := mfind_end hlt
  have hty : toB y.data.toList = y := toB_eta y
  have hri2 : Rises ((out ++ [(y, x)]) ++ m) := by rw [List.append_assoc]; exact hri
  cases hx : x.leaf with
  | true =>
   have hL := hf.leafOk hx
   rw [hx, if_pos rfl, List.singleton_append] at h hw
   obtain ⟨h1, h2⟩ := at_head h
   rw [wAt_cons] at hw
   simp only [List.length_append, List.length_cons] at hw
   have hsp := (key_ok y).spl (prL x) hL.w.ne fun c hc => (hL.w.head c hc).1
   have hi : inlS (prL x) ⟨st.l, st.at_ + 1, st.bad⟩ = (x, ⟨st.l, st.at_ + 1, st.bad⟩) := by
    unfold inlS
    rw [hL.inl]
    simp
   have hw2 := w_of (st := ⟨st.l, st.at_ + 1, st.bad⟩) h2
   obtain ⟨st', k1, k2, k3⟩ := map_of hN m (out ++ [(y, x)]) k n ⟨st.l, st.at_ + 1, st.bad⟩ r (fun p hp => hall p (by simp [hp])) hri2 h2 hr hk (by omega)
   refine ⟨st', ?_, k2, k3⟩
   rw [readF, h1]
   simp only
   rw [if_pos trivial, item_key, if_neg (by simp), hsp]
   simp only
   rw [hty, hfind, if_neg (by simp), if_neg hL.w.ne, hi]
   simp only
   rw [hins, k1, List.append_assoc]
   rfl
  | false =>
   rw [hx, if_neg (by simp), List.cons_append] at h hw
   obtain ⟨h1, h2⟩ := at_head h
   rw [wAt_cons] at hw
   simp only [List.length_append, List.length_cons, List.length_nil] at hw
   have hsp := (key_ok y).spl0
   have hw2 := w_of (st := ⟨st.l, st.at_ + 1, st.bad⟩) h2
   obtain ⟨st1, j1, j2, j3⟩ := below_of hN hs hf hx k n (st := ⟨st.l, st.at_ + 1, st.bad⟩) h2 hnext (by omega)
   have hw3 := w_of j2
   have hle : wAt (linM m k ++ r) ≤ wAt (linV x (k + 2) ++ (linM m k ++ r)) := by unfold wAt; rw [List.map_append (l₁ := linV x (k + 2)), List.sum_append]; omega
   obtain ⟨st', k1, k2, k3⟩ := map_of hN m (out ++ [(y, x)]) k n st1 r (fun p hp => hall p (by simp [hp])) hri2 j2 hr hk (by omega)
   refine ⟨st', ?_, k2, k3.trans j3⟩
   rw [readF, h1]
   simp only
   rw [if_pos trivial, item_key, if_neg (by simp), hsp]
   simp only
   rw [hty, hfind, if_neg (by simp), if_pos trivial, j1]
   simp only
   rw [hins, k1, List.append_assoc]
   rfl
theorem reads_all : ∀ N, Reads N
 | 0 => fun v _ _ _ _ hs => by have := v.size_pos; omega
 | N + 1 => fun v k n st r hs hf hl h hr hk hn => by
  have hN := reads_all N
  obtain ⟨n, rfl⟩ : ∃ m, n = m + 1 := ⟨n - 1, by omega⟩
  cases hf with
  | leaf hl2 _ => rw [hl2] at hl; cases hl
  | @list l hne hall =>
   have hL : linV (vList l) k = linL l k := by rw [linV_eq]; show linL l k ++ linM [] k = _; rw [linM, List.append_nil]
   rw [hL] at h
   obtain ⟨t, q, e, hit⟩ := headL hne k r
   have h1 := (at_head (h.trans e)).1
   rw [vList_size] at hs
   obtain ⟨st', k1, k2, k3⟩ := list_of hN l [] k n st r (fun x hx => ⟨hall x hx, by have := mem_sizeL hx; omega⟩) h hr hk (by omega)
   refine ⟨st', ?_, k2, k3⟩
   have hd := deep_no k2 (hr.mono (show k - 1 ≤ k by omega))
   unfold readF
   rw [h1]
   simp only [hit, if_true, k1, hd, Bool.false_eq_true, if_false]
   rfl
  | @map m hne hri hall =>
   have hM : linV (vMap m) k = linM m k := by rw [linV_eq]; show linL [] k ++ linM m k = _; rw [linL, List.nil_append]
   rw [hM] at h
   obtain ⟨t, q, e, hit, hsp⟩ := headM hne (fun p hp hl => (hall p hp).leafOk hl) k r
   have h1 := (at_head (h.trans e)).1
   rw [vMap_size] at hs
   obtain ⟨st', k1, k2, k3⟩ := map_of hN m [] k n st r (fun p hp => ⟨hall p hp, by have := mem_sizeM hp; omega⟩) (by simpa using hri) h hr hk (by omega)
   refine ⟨st', ?_, k2, k3⟩
   have hd := deep_no k2 (hr.mono (show k - 1 ≤ k by omega))
   unfold readF
   rw [h1]
   simp only [hit, hsp, if_true, k1, hd, Bool.false_eq_true, if_false]
   rfl
theorem BareAt.word {s a w z : Bs} {m i : Nat} (hd : s.drop i = a ++ (w ++ z)) (ha : ∀ c ∈ a, okB c = true) (hw : WordOk w) (hp : a = [] ∧ i = 0 ∨ a.getLast? = some 32) (hz : BareAt s m (i + a.length + w.length)) : BareAt s m i := by
 have hlen := congrArg List.length hd
 rw [List.length_drop, List.length_append, List.length_append] at hlen
 have hwl : 0 < w.length := List.length_pos_iff.2 hw.ne
 refine BareAt.run hd ha (hw.bare s m (i + a.length) z ?_ ?_ (by omega) hz)
 ·rw [← List.drop_drop, hd, List.drop_left' rfl]
 ·rcases hp with ⟨rfl, rfl⟩ | hp
  ·rfl
  ·obtain ⟨b, rfl⟩ := List.getLast?_eq_some_iff.1 hp
   have h1 : s[i + b.length]? = some 32 := by
    have : (s.drop i)[b.length]? = some 32 := by rw [hd]; simp
    rwa [List.getElem?_drop] at this
   unfold prevL
   have h2 : i + (b ++ [32]).length - 1 = i + b.length := by rw [List.length_append, List.length_singleton]; omega
   have h3 : ¬ i + (b ++ [32]).length = 0 := by rw [List.length_append, List.length_singleton]; omega
   rw [if_neg h3, h2, h1]
   rfl
structure TailOk (e : Bs) (j : Nat) : Prop where
 len : j ≤ e.length
 pad : e.take j = List.replicate j 32
 bare : ∀ s i, s.drop i = e → i ≤ s.length → BareAt s (i + j) i
theorem TailOk.nil : TailOk [] 0 := ⟨Nat.le_refl _, rfl, fun s i h hi => by
 have := congrArg List.length h
 rw [List.length_drop] at this
 simp only [List.length_nil] at this
 have e : i + 0 = s.length := by omega
 rw [e]
 exact BareOk.nil h⟩
theorem oneLine_e {x e : Bs} {k j : Nat} {c d : UInt8} {t : Bs} (he : TailOk e j) (hx : x = List.replicate k 32 ++ c :: t) (hb : BareAt (x ++ e) (x.length + j) 0) (hc : c ≠ 32) (hc9 : c ≠ 9) (hl : (c :: t).getLast? = some d) (hd : d ≠ 32) : oneLine (x ++ e) = some (some (k, c :: t)) := by
 have hbl : bareL (x ++ e) = x ++ List.replicate j 32 := by
  rw [bareL_of hb, List.take_append, List.take_of_length_le (by omega), show x.length + j - x.length = j by omega, he.pad]
 have htr : tr (x ++ List.replicate j 32) = x := by
  obtain ⟨u, hu⟩ : ∃ u, c :: t = u ++ [d] := List.getLast?_eq_some_iff.1 hl
  have h0 : ∀ j, Lib.trimRightB (List.replicate k 32 ++ u ++ [d] ++ List.replicate j 32) 32 = List.replicate k 32 ++ u ++ [d] := fun j => by
   induction j with
   | zero => rw [List.replicate_zero, List.append_nil]; exact tr_of hd
   | succ j ih =>
    rw [List.replicate_succ', ← List.append_assoc]
    unfold Lib.trimRightB at ih ⊢
    rw [List.reverse_append, List.reverse_singleton, List.singleton_append, List.dropWhile_cons, if_pos (by decide)]
    exact ih
  rw [hx, hu, ← List.append_assoc]
  exact h0 j
 unfold oneLine
 rw [hbl, htr, hx, tl_pad k hc]
 show (if c = 9 then none else _) = _
 rw [if_neg hc9]
 simp
structure LnOk (x : Nat × Bs) : Prop where
 one : ∀ e j, TailOk e j → oneLine (List.replicate x.1 32 ++ x.2 ++ e) = some (some x)
 nl : 10 ∉ x.2
 dash : ∀ t, x.2 ≠ 45 :: 45 :: t
theorem rep_ok (k : Nat) : ∀ c ∈ List.replicate k (32 : UInt8), okB c = true := fun c hc => by rw [List.eq_of_mem_replicate hc]; rfl
theorem rep_last (k : Nat) : List.replicate k (32 : UInt8) = [] ∧ 0 = 0 ∨ (List.replicate k (32 : UInt8)).getLast? = some 32 := by
 cases k with
 | zero => exact .inl ⟨rfl, rfl⟩
 | succ k => refine .inr (List.getLast?_eq_some_iff.2 ⟨List.replicate k 32, ?_⟩); rw [List.replicate_succ']
theorem last_of {w : Bs} (hw : WordOk w) (a : Bs) : ∃ d, (a ++ w).getLast? = some d ∧ d ≠ 32 := by
 obtain ⟨d, hd⟩ : ∃ d, w.getLast? = some d := by
  cases h : w.getLast? with
  | none => exact absurd (List.getLast?_eq_none_iff.1 h) hw.ne
  | some d => exact ⟨d, rfl⟩
 refine ⟨d, ?_, hw.last d hd⟩
 rw [List.getLast?_append, hd]
 rfl
theorem head_of {w : Bs} (hw : WordOk w) : ∃ c t, w = c :: t ∧ c ≠ 32 ∧ c ≠ 9 := by
 cases h : w with
 | nil => exact absurd h hw.ne
 | cons c t => exact ⟨c, t, rfl, hw.head c (by rw [h]; rfl)⟩
theorem tail_at {e : Bs} {j : Nat} (he : TailOk e j) (x : Bs) (k : Nat) (hk : k = x.length) : BareAt (x ++ e) (x.length + j) k := by
 subst hk
 exact he.bare _ _ (List.drop_left' rfl) (by rw [List.length_append]; omega)
theorem ln_leaf {w : Bs} (hw : WordOk w) (hd : ∀ t, w ≠ 45 :: 45 :: t) : LnOk (0, w) := by
 refine ⟨fun e j he => ?_, hw.nl, hd⟩
 obtain ⟨c, t, e1, h1, h2⟩ := head_of hw
 obtain ⟨d, hd, h3⟩ := last_of hw []
 have hb : BareAt (w ++ e) (w.length + j) 0 := BareAt.word (a := []) (w := w) (z := e) (by simp) (by simp) hw (.inl ⟨rfl, rfl⟩) (tail_at he w _ (by simp))
 subst e1
 exact oneLine_e (k := 0) he rfl hb h1 h2 (by simpa using hd) h3
theorem ln_item {w : Bs} (hw : WordOk w) (k : Nat) : LnOk (k, 45 :: 32 :: w) := by
 refine ⟨fun e j he => ?_, (fun hm => by
  rcases List.mem_cons.1 hm with h | hm
  ·cases h
  ·rcases List.mem_cons.1 hm with h | hm
   ·cases h
   ·exact hw.nl hm), fun t h => by injection h with _ h; injection h with h; cases h⟩
 obtain ⟨d, hd, h3⟩ := last_of hw [45, 32]
 refine oneLine_e he rfl (BareAt.word (a := List.replicate k 32 ++ [45, 32]) (w := w) (z := e) (by rw [List.drop_zero]; simp) (fun c hc => ?_) hw (.inr (List.getLast?_eq_some_iff.2 ⟨List.replicate k 32 ++ [45], by simp⟩)) (tail_at he _ _ (by simp; omega))) (by decide) (by decide) hd h3
 rcases List.mem_append.1 hc with hc | hc
 ·exact rep_ok k c hc
 ·rcases List.mem_cons.1 hc with rfl | hc
  ·rfl
  ·rw [List.mem_singleton.1 hc]; rfl
theorem ln_dash (k : Nat) : LnOk (k, [45]) := by
 refine ⟨fun e j he => ?_, (fun hm => by cases List.mem_singleton.1 hm), fun t h => by cases h⟩
 refine oneLine_e (t := []) he rfl (BareAt.run (a := List.replicate k 32 ++ [45]) (r := e) (by rw [List.drop_zero]) (fun c hc => ?_) (tail_at he _ _ (by simp))) (by decide) (by decide) rfl (by decide)
 rcases List.mem_append.1 hc with hc | hc
 ·exact rep_ok k c hc
 ·rw [List.mem_singleton.1 hc]; rfl
theorem key_dash (y : ByteArray) (r t : Bs) : wdL y ++ r ≠ 45 :: 45 :: t := fun h => by
 obtain ⟨c, u, e, _, _⟩ := head_of (key_ok y).w
 rw [e] at h
 injection h with h _
 exact (key_ok y).head c (by rw [e]; rfl) h
theorem ln_key {w : Bs} (hw : WordOk w) (y : ByteArray) (k : Nat) : LnOk (k, wdL y ++ 58 :: 32 :: w) := by
 have hy := (key_ok y).w
 refine ⟨fun e j he => ?_, (fun hm => by
  rcases List.mem_append.1 hm with hm | hm
  ·exact hy.nl hm
  ·rcases List.mem_cons.1 hm with h | hm
   ·cases h
   ·rcases List.mem_cons.1 hm with h | hm
    ·cases h
    ·exact hw.nl hm), key_dash y _⟩
 obtain ⟨d, hd, h3⟩ := last_of hw (wdL y ++ [58, 32])
 obtain ⟨c, t, e2, h1, h2⟩ := head_of hy
 have hb : BareAt ((List.replicate k 32 ++ (wdL y ++ 58 :: 32 :: w)) ++ e) ((List.replicate k 32 ++ (wdL y ++ 58 :: 32 :: w)).length + j) 0 := by
  refine BareAt.word (a := List.replicate k 32) (w := wdL y) (z := [58, 32] ++ (w ++ e)) (by rw [List.drop_zero]; simp) (rep_ok k) hy ?_ ?_
  ·rcases rep_last k with h | h
   ·exact .inl h
   ·exact .inr h
  ·refine BareAt.word (a := [58, 32]) (w := w) (z := e) ?_ (by decide) hw (.inr rfl) (tail_at he _ _ (by simp; omega))
   rw [show 0 + (List.replicate k (32 : UInt8)).length + (wdL y).length = (List.replicate k (32 : UInt8) ++ wdL y).length by simp]
   rw [show (List.replicate k 32 ++ (wdL y ++ 58 :: 32 :: w)) ++ e = (List.replicate k 32 ++ wdL y) ++ ([58, 32] ++ (w ++ e)) by simp, List.drop_left' rfl]
 have e3 : wdL y ++ 58 :: 32 :: w = c :: (t ++ 58 :: 32 :: w) := by rw [e2]; rfl
 have hd2 : (wdL y ++ 58 :: 32 :: w).getLast? = some d := by rw [show wdL y ++ 58 :: 32 :: w = wdL y ++ [58, 32] ++ w by simp]; exact hd
 show oneLine ((List.replicate k 32 ++ (wdL y ++ 58 :: 32 :: w)) ++ e) = _
 rw [e3] at hb hd2 ⊢
 exact oneLine_e he rfl hb h1 h2 hd2 h3
theorem ln_key0 (y : ByteArray) (k : Nat) : LnOk (k, wdL y ++ [58]) := by
 have hy := (key_ok y).w
 refine ⟨fun e j he => ?_, (fun hm => by
  rcases List.mem_append.1 hm with hm | hm
  ·exact hy.nl hm
  ·cases List.mem_singleton.1 hm), key_dash y _⟩
 obtain ⟨c, t, e2, h1, h2⟩ := head_of hy
 have hb : BareAt ((List.replicate k 32 ++ (wdL y ++ [58])) ++ e) ((List.replicate k 32 ++ (wdL y ++ [58])).length + j) 0 := by
  refine BareAt.word (a := List.replicate k 32) (w := wdL y) (z := [58] ++ e) (by rw [List.drop_zero]; simp) (rep_ok k) hy ?_ ?_
  ·rcases rep_last k with h | h
   ·exact .inl h
   ·exact .inr h
  ·refine BareAt.run (a := [58]) (r := e) ?_ (by decide) (tail_at he _ _ (by simp; omega))
   rw [show 0 + (List.replicate k (32 : UInt8)).length + (wdL y).length = (List.replicate k (32 : UInt8) ++ wdL y).length by simp]
   rw [show (List.replicate k 32 ++ (wdL y ++ [58])) ++ e = (List.replicate k 32 ++ wdL y) ++ ([58] ++ e) by simp, List.drop_left' rfl]
 have e3 : wdL y ++ [58] = c :: (t ++ [58]) := by rw [e2]; rfl
 have hd2 : (wdL y ++ [58]).getLast? = some 58 := List.getLast?_eq_some_iff.2 ⟨_, rfl⟩
 show oneLine ((List.replicate k 32 ++ (wdL y ++ [58])) ++ e) = _
 rw [e3] at hb hd2 ⊢
 exact oneLine_e he rfl hb h1 h2 hd2 (by decide)
theorem lin_ok : ∀ {v : V}, Fit v → v.leaf = false → ∀ k, ∀ x ∈ linV v k, LnOk x := by
 intro v hf
 induction hf with
 | leaf hl _ => intro h; rw [hl] at h; cases h
 | @list l hne hall ih =>
  intro _ k x hx
  rw [linV_eq] at hx
  have hx : x ∈ linL l k := by simpa [vList, V.l, V.m, linM] using hx
  have key : ∀ (l : List V), (∀ y ∈ l, Fit y ∧ (y.leaf = false → ∀ k, ∀ x ∈ linV y k, LnOk x)) → ∀ x ∈ linL l k, LnOk x := by
   intro l
   induction l with
   | nil => intro _ x hx; rw [linL] at hx; cases hx
   | cons y l ih2 =>
    intro h x hx
    rw [linL_cons] at hx
    rcases List.mem_append.1 hx with hx | hx
    ·cases hy : y.leaf with
     | true =>
      rw [hy, if_pos rfl] at hx
      rw [List.mem_singleton.1 hx]
      exact ln_item ((h y (by simp)).1.leafOk hy).w k
     | false =>
      rw [hy, if_neg (by simp)] at hx
      rcases List.mem_cons.1 hx with rfl | hx
      ·exact ln_dash k
      ·exact (h y (by simp)).2 hy _ x hx
    ·exact ih2 (fun z hz => h z (by simp [hz])) x hx
  exact key l (fun y hy => ⟨hall y hy, ih y hy⟩) x hx
 | @map m hne hri hall ih =>
  intro _ k x hx
  rw [linV_eq] at hx
  have hx : x ∈ linM m k := by simpa [vMap, V.l, V.m, linL] using hx
  have key : ∀ (m : List (ByteArray × V)), (∀ p ∈ m, Fit p.2 ∧ (p.2.leaf = false → ∀ k, ∀ x ∈ linV p.2 k, LnOk x)) → ∀ x ∈ linM m k, LnOk x := by
   intro m
   induction m with
   | nil => intro _ x hx; rw [linM] at hx; cases hx
   | cons p m ih2 =>
    intro h x hx
    obtain ⟨y, z⟩ := p
    rw [linM_cons] at hx
    rcases List.mem_append.1 hx with hx | hx
    ·cases hy : z.leaf with
     | true =>
      rw [hy, if_pos rfl] at hx
      rw [List.mem_singleton.1 hx]
      exact ln_key ((h (y, z) (by simp)).1.leafOk hy).w y k
     | false =>
      rw [hy, if_neg (by simp)] at hx
      rcases List.mem_cons.1 hx with rfl | hx
      ·exact ln_key0 y k
      ·exact (h (y, z) (by simp)).2 hy _ x hx
    ·exact ih2 (fun q hq => h q (by simp [hq])) x hx
  exact key m (fun p hp => ⟨hall p hp, ih p hp⟩) x hx
def padL (x : Nat × Bs) : Bs := List.replicate x.1 32 ++ x.2
def txt (ls : List (Nat × Bs)) : Bs := ls.flatMap fun x => padL x ++ [10]
theorem txt_app (a b : List (Nat × Bs)) : txt (a ++ b) = txt a ++ txt b := List.flatMap_append
theorem txt_cons (x : Nat × Bs) (l : List (Nat × Bs)) : txt (x :: l) = padL x ++ [10] ++ txt l := by simp [txt]
theorem lay_txt : ∀ (N : Nat), (∀ v : V, v.size ≤ N → ∀ k, (v.lay wordB prB k).data.toList = txt (linV v k))
 | 0 => fun v h => by have := v.size_pos; omega
 | N + 1 => fun v h k => by
  have ih := lay_txt N
  have hsz := v.size_eq
  have key1 : ∀ (l : List V), (∀ x ∈ l, x.size ≤ N) → (layL wordB prB l k).data.toList = txt (linL l k) := by
   intro l
   induction l with
   | nil => intro _; rw [layL, linL]; rfl
   | cons x l ih2 =>
    intro hl
    rw [layL_cons, linL_cons, txt_app, ba_app_list, ba_app_list, ba_app_list, ih2 fun y hy => hl y (by simp [hy])]
    congr 1
    rw [V.tail]
    cases hx : x.leaf with
    | true =>
     rw [if_pos rfl, if_pos rfl, ba_app_list, ba_app_list, txt_cons]
     simp [padL, padB, prL, txt]
    | false =>
     rw [if_neg (by simp), if_neg (by simp), ba_app_list, ih x (hl x (by simp)), txt_cons]
     simp [padL, padB]
  have key2 : ∀ (m : List (ByteArray × V)), (∀ p ∈ m, p.2.size ≤ N) → (layM wordB prB m k).data.toList = txt (linM m k) := by
   intro m
   induction m with
   | nil => intro _; rw [layM, linM]; rfl
   | cons p m ih2 =>
    intro hm
    obtain ⟨y, x⟩ := p
    rw [layM_cons, linM_cons, txt_app, ba_app_list, ba_app_list, ba_app_list, ba_app_list, ih2 fun q hq => hm q (by simp [hq])]
    congr 1
    rw [V.tail]
    cases hx : x.leaf with
    | true =>
     rw [if_pos rfl, if_pos rfl, ba_app_list, ba_app_list, txt_cons]
     simp [padL, padB, prL, wdL, txt]
    | false =>
     rw [if_neg (by simp), if_neg (by simp), ba_app_list, ih x (hm (y, x) (by simp)), txt_cons]
     simp [padL, padB, wdL]
  rw [V.lay_eq, ba_app_list, linV_eq, txt_app, key1 v.l fun x hx => by have := mem_sizeL hx; omega, key2 v.m fun p hp => by have := mem_sizeM hp; omega]
theorem joinC_txt (c : UInt8) : ∀ ls : List Bs, ls.flatMap (fun x => x ++ [c]) = joinC c (ls ++ [[]])
 | [] => rfl
 | x :: ls => by
  rw [List.flatMap_cons, joinC_txt c ls]
  cases ls with
  | nil => simp [joinC]
  | cons y ls =>
   show x ++ [c] ++ joinC c (y :: (ls ++ [[]])) = joinC c (x :: y :: (ls ++ [[]]))
   rw [joinC_cons]
   simp
theorem txt_join (ls : List (Nat × Bs)) : txt ls = joinC 10 (ls.map padL ++ [[]]) := by
 rw [← joinC_txt]
 unfold txt
 rw [List.flatMap_map]
theorem pad_nl {x : Nat × Bs} (h : LnOk x) : 10 ∉ padL x := fun hm => by
 rcases List.mem_append.1 hm with hm | hm
 ·cases List.eq_of_mem_replicate hm
 ·exact h.nl hm
theorem linesL_pads : ∀ {ls : List (Nat × Bs)}, (∀ x ∈ ls, LnOk x) → linesL (ls.map padL) = some ls
 | [], _ => rfl
 | x :: ls, h => by
  rw [List.map_cons, linesL, show oneLine (padL x) = some (some x) by have := (h x (by simp)).one [] 0 TailOk.nil; rwa [List.append_nil] at this, linesL_pads fun y hy => h y (by simp [hy])]
  rfl
theorem linesT_txt {ls : List (Nat × Bs)} (h : ∀ x ∈ ls, LnOk x) {s : ByteArray} (hs : s.data.toList = txt ls) : linesL ((splT 10 s).map fun x => x.data.toList) = some ls := by
 rw [splT_join (l := ls.map padL ++ [[]]) (by simp) (fun t ht => by
  rcases List.mem_append.1 ht with ht | ht
  ·obtain ⟨x, hx, rfl⟩ := List.mem_map.1 ht
   exact pad_nl (h x hx)
  ·rw [List.mem_singleton.1 ht]; simp) (by rw [hs, txt_join]), linesL_app, linesL_pads h]
 show (match some ls, linesL [[]] with | some x, some y => some (x ++ y) | _, _ => none) = _
 rw [show linesL [[]] = some [] from rfl]
 simp
def emL (v : V) : List (Nat × Bs) := if v.leaf = true then [(0, prL v)] else linV v 0
theorem emL_ok {v : V} (hf : Fit v) : ∀ x ∈ emL v, LnOk x := fun x h => by
 unfold emL at h
 cases hx : v.leaf with
 | true =>
  rw [hx, if_pos rfl] at h
  rw [List.mem_singleton.1 h]
  exact ln_leaf (hf.leafOk hx).w (hf.leafOk hx).dash
 | false =>
  rw [hx, if_neg (by simp)] at h
  exact lin_ok hf hx 0 x h
theorem emL_txt (v : V) : (v.emit wordB prB).data.toList = txt (emL v) := by
 unfold emL
 rw [V.emit]
 cases hx : v.leaf with
 | true => rw [if_pos rfl, if_pos rfl, ba_app_list]; simp [txt, padL, prL]
 | false => rw [if_neg (by simp), if_neg (by simp)]; exact lay_txt _ v (Nat.le_refl _) 0
theorem emL_parse {v : V} (hf : Fit v) (hc : v.checkC = 0) (hz : (v.emit wordB prB).size ≤ 65536) : parseT (emL v) = (v, 0) := by
 have hlt := linesT_txt (emL_ok hf) (emL_txt v)
 unfold emL at hlt ⊢
 cases hx : v.leaf with
 | true =>
  have hL := hf.leafOk hx
  rw [if_pos rfl, parseT_one hL.item hL.spl hL.inl (fun h => absurd rfl h), if_neg (by simp), if_neg (by simp [hc])]
 | false =>
  rw [hx, if_neg (by simp)] at hlt
  rw [if_neg (by simp)]
  obtain ⟨j, t, q, e⟩ : ∃ j t q, linV v 0 = (j, t) :: q ∧ j = 0 := by
   cases hf with
   | leaf hl2 _ => rw [hl2] at hx; cases hx
   | @list l hne hall =>
    obtain ⟨t, q, e, _⟩ := headL hne 0 []
    rw [List.append_nil] at e
    exact ⟨0, t, q, by rw [linV_eq]; show linL l 0 ++ linM [] 0 = _; rw [linM, List.append_nil]; exact e, rfl⟩
   | @map m hne hri hall =>
    obtain ⟨t, q, e, _⟩ := headM hne (fun p hp hl => (hall p hp).leafOk hl) 0 []
    rw [List.append_nil] at e
    exact ⟨0, t, q, by rw [linV_eq]; show linL [] 0 ++ linM m 0 = _; rw [linL, List.nil_append]; exact e, rfl⟩
  obtain ⟨e, rfl⟩ := e
  obtain ⟨b1, b2, b3⟩ := linesT_ok hlt
  have hI : YInv ⟨linV v 0, 0, 0⟩ := ⟨Nat.zero_le _, by simp only; omega, fun y hy => by have := b2 y hy; omega⟩
  have hwy : (YR.mk (linV v 0) 0 0).w = wAt (linV v 0) := rfl
  obtain ⟨st', k1, k2, k3⟩ := reads_all v.size v 0 (3 * wAt (linV v 0) + 3) ⟨linV v 0, 0, 0⟩ [] (Nat.le_refl _) hf hx (by simp) (fun x hx => by cases hx) (fun h => absurd rfl h) (by omega)
  have hro := read_ok (3 * wAt (linV v 0) + 3) .block 0 ⟨linV v 0, 0, 0⟩ hI (by simp only [YMsz]; omega) trivial
  rw [k1] at hro
  have hlen := hro.len
  simp only at hlen k3
  have hat : ¬ st'.at_ < (linV v 0).length := by
   have := List.drop_eq_nil_iff.1 k2
   omega
  rw [e] at k1 hat ⊢
  unfold parseT
  simp only
  rw [k1]
  simp only
  rw [if_neg (by simp [k3]), if_neg hat, if_neg (by simp [hc])]
theorem parse_same {v : V} (hf : Fit v) (hc : v.checkC = 0) (hz : (v.emit wordB prB).size ≤ 65536) {s : ByteArray} (hs : s.size ≤ 65536) (h : linesL ((splT 10 s).map fun x => x.data.toList) = some (emL v)) : parseL s = (v, 0) := by
 unfold parseL
 rw [if_neg (by omega), h]
 exact emL_parse hf hc hz
theorem parse_emit {v : V} (hf : Fit v) (hc : v.checkC = 0) (hz : (v.emit wordB prB).size ≤ 65536) : parseL (v.emit wordB prB) = (v, 0) :=
 parse_same hf hc hz hz (linesT_txt (emL_ok hf) (emL_txt v))
end Go.Proofs.YtbfiopoefbbknaaGreatDoor
