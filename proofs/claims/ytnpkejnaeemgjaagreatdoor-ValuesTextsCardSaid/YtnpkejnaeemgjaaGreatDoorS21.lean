/-
  The texts that the claim wants, one behind the other: part 21.
-/
import Derived.Test.YtnpkejnaeemgjaaGreatDoorS20
import Derived.Lib.TrimByte
import Derived.Lib.IndexMore
set_option linter.unusedSimpArgs false
set_option linter.unusedVariables false
namespace Go.Proofs.YtnpkejnaeemgjaaGreatDoor
open Go.RowKit
abbrev Bs := List UInt8
def toB (l : Bs) : ByteArray := ⟨l.toArray⟩
def vList (l : List V) : V := .mk 4 false 0 ⟨#[]⟩ l []
def tl (l : Bs) : Bs := Lib.trimLeftB l 32
def tr (l : Bs) : Bs := Lib.trimRightB l 32
def isQ (c : UInt8) : Bool := c == 34 || c == 39
def unqL : Bs → Option (Bs × Bs)
 | [] => none
 | c :: l => if c = 34 then dbl l [] else if c = 39 then sgl l [] else none
theorem unq_eq (s : ByteArray) : unq s = unqL s.data.toList := rfl
def prevL (s : Bs) (i : Nat) : Option UInt8 := if i = 0 then none else s[i - 1]?
def blankB : Option UInt8 → Bool
 | none => true
 | some q => q == 32
def openB : Option UInt8 → Bool
 | none => true
 | some q => q == 32 || q == 91 || q == 123 || q == 44
def bareE (s : Bs) : Nat → Nat → Nat
 | 0, _ => s.length
 | n + 1, i => match s.drop i with
  | [] => s.length
  | c :: t => if (c == 35 && blankB (prevL s i)) = true then i else if (isQ c && openB (prevL s i)) = true then (match unqL (c :: t) with
   | none => s.length
   | some (_, rest) => bareE s n (s.length - rest.length))
   else bareE s n (i + 1)
def bareL (s : Bs) : Bs := s.take (bareE s (s.length + 1) 0)
def oneLine (x : Bs) : Option (Option (Nat × Bs)) :=
 match tl (tr (bareL x)) with
 | [] => some none
 | c :: t => if c = 9 then none else some (some ((tr (bareL x)).length - (c :: t).length, c :: t))
def linesL : List Bs → Option (List (Nat × Bs))
 | [] => some []
 | x :: l => match oneLine x with
  | none => none
  | some o => match linesL l with
   | none => none
   | some r => some (o.toList ++ r)
def isItem (s : Bs) : Bool := s == [45] || [45, 32].isPrefixOf s
def oddC (c : UInt8) : Bool := ([91, 93, 123, 125, 44, 38, 42, 33, 124, 62, 37, 64, 35, 63, 58, 34, 39, 96] : Bs).contains c
def oddL : Bs → Bool
 | [] => false
 | c :: _ => oddC c
def quoted : Bs → Bool
 | [] => false
 | c :: _ => isQ c
def splitL (s : Bs) : Option (Bs × Bs) :=
 if quoted s = true then (match unqL s with
  | none => none
  | some (key, rest) => match rest with
   | [] => none
   | c :: r => if c = 58 then (match r with
    | [] => some (key, [])
    | d :: _ => if d = 32 then some (key, tl r) else none) else none)
 else if Lib.index s [58, 32] < 0 then
  (if Lib.hasSuffix s [58] = true then (if tr (s.take (s.length - 1)) = [] ∨ oddL (tr (s.take (s.length - 1))) = true then none else some (tr (s.take (s.length - 1)), [])) else none)
 else if tr (s.take (Lib.index s [58, 32]).toNat) = [] ∨ oddL (tr (s.take (Lib.index s [58, 32]).toNat)) = true then none
 else some (tr (s.take (Lib.index s [58, 32]).toNat), tl (s.drop ((Lib.index s [58, 32]).toNat + 1)))
inductive FM where
 | one (ends : Bs)
 | flow (out : List V)
 | braces (out : List (ByteArray × V))
def badWord (w : Bs) : Bool := w.isEmpty || oddL w || decide (0 ≤ Lib.index w [58, 32]) || Lib.hasSuffix w [58]
def keyF (s : Bs) : Bs × Bs × Int :=
 if quoted s = true then (match unqL s with
  | none => ([], [], 11)
  | some (key, rest) => match rest with
   | [] => ([], [], 10)
   | c :: r => if c = 58 then (key, r, 0) else ([], [], 10))
 else if Lib.indexByte s 58 = -1 then ([], [], 10)
 else if ((tr (s.take (Lib.indexByte s 58).toNat)).isEmpty || oddL (tr (s.take (Lib.indexByte s 58).toNat)) || (tr (s.take (Lib.indexByte s 58).toNat)).contains 44 || (tr (s.take (Lib.indexByte s 58).toNat)).contains 93 || (tr (s.take (Lib.indexByte s 58).toNat)).contains 125) = true then ([], [], 10)
 else (tr (s.take (Lib.indexByte s 58).toNat), s.drop ((Lib.indexByte s 58).toNat + 1), 0)
def endAt (ends s : Bs) : Nat := if ends = [] then s.length else (s.takeWhile fun c => !ends.contains c).length
def flowF : Nat → FM → Bs → V × Bs × Int
 | 0, _, _ => (V.null, [], 10)
 | n + 1, .one ends, s => match tl s with
  | [] => (V.null, [], 10)
  | c :: t => if c = 91 then (match tl t with
    | [] => flowF n (.flow []) []
    | d :: u => if d = 93 then (vList [], tl u, 0) else flowF n (.flow []) (d :: u))
   else if c = 123 then (match tl t with
    | [] => flowF n (.braces []) []
    | d :: u => if d = 125 then (vMap [], tl u, 0) else flowF n (.braces []) (d :: u))
   else if isQ c = true then (match unqL (c :: t) with
    | none => (V.str ⟨#[]⟩, [], 11)
    | some (x, rest) => (V.str (toB x), tl rest, 0))
   else if badWord (tr ((c :: t).take (endAt ends (c :: t)))) = true then (V.null, [], 10)
   else ((scalP (toB (tr ((c :: t).take (endAt ends (c :: t)))))).1, (c :: t).drop (endAt ends (c :: t)), (scalP (toB (tr ((c :: t).take (endAt ends (c :: t)))))).2)
 | n + 1, .flow out, s => match flowF n (.one [44, 93]) s with
  | (v, rest, e) => if e ≠ 0 then (V.null, [], e) else match rest with
   | [] => (V.null, [], 10)
   | c :: u => if c = 93 then (vList (out ++ [v]), tl u, 0) else if c = 44 then flowF n (.flow (out ++ [v])) u else (V.null, [], 10)
 | n + 1, .braces out, s => match keyF (tl s) with
  | (key, rest, k) => if k ≠ 0 then (V.null, [], k) else if (mfind (toB key) out).isSome = true then (V.null, [], 13) else match flowF n (.one [44, 125]) rest with
   | (v, more, e) => if e ≠ 0 then (V.null, [], e) else match more with
    | [] => (V.null, [], 10)
    | c :: u => if c = 125 then (vMap (minsert (toB key) v out), tl u, 0) else if c = 44 then flowF n (.braces (minsert (toB key) v out)) u else (V.null, [], 10)
def inlineL (s : Bs) : V × Int := match flowF (2 * s.length + 1) (.one []) s with
 | (v, rest, e) => if e ≠ 0 then (V.null, e) else if rest ≠ [] then (V.null, 10) else (v, 0)
structure YR where
 l : List (Nat × Bs)
 at_ : Nat
 bad : Int
def YR.fail (st : YR) (e : Int) : YR := ⟨st.l, st.l.length, if st.bad = 0 then e else st.bad⟩
inductive YM where
 | block
 | below
 | list (out : List V)
 | pairs (out : List (ByteArray × V))
def inlS (s : Bs) (st : YR) : V × YR := match inlineL s with
 | (v, e) => if e ≠ 0 then (V.null, st.fail e) else (v, st)
def YR.deep (st : YR) (i : Nat) : Bool := match st.l[st.at_]? with
 | some (j, _) => decide (i < j)
 | none => false
def readF : Nat → YM → Nat → YR → V × YR
 | 0, _, _, st => (V.null, st)
 | n + 1, .block, i, st => match st.l[st.at_]? with
  | none => (V.null, st)
  | some (_, text) => match (if isItem text = true then readF n (.list []) i st else if (splitL text).isSome = true then readF n (.pairs []) i st else inlS text ⟨st.l, st.at_ + 1, st.bad⟩) with
   | (v, st1) => if st1.deep i = true then (V.null, st1.fail 12) else (v, st1)
 | n + 1, .below, i, st => match st.l[st.at_]? with
  | none => (V.null, st)
  | some (j, _) => if i < j then readF n .block j st else (V.null, st)
 | n + 1, .list out, i, st => match st.l[st.at_]? with
  | none => (vList out, st)
  | some (j, text) => if j = i ∧ isItem text = true then
    (if tl (text.drop 1) = [] then (match readF n .below i ⟨st.l, st.at_ + 1, st.bad⟩ with
     | (v, st1) => readF n (.list (out ++ [v])) i st1)
    else (match readF n .block (i + text.length - (tl (text.drop 1)).length) ⟨st.l.set st.at_ (i + text.length - (tl (text.drop 1)).length, tl (text.drop 1)), st.at_, st.bad⟩ with
     | (v, st1) => readF n (.list (out ++ [v])) i st1))
   else (vList out, st)
 | n + 1, .pairs out, i, st => match st.l[st.at_]? with
  | none => (vMap out, st)
  | some (j, text) => if j = i then (if isItem text = true then (V.null, st.fail 10) else match splitL text with
    | none => (V.null, st.fail 10)
    | some (key, rest) => if (mfind (toB key) out).isSome = true then (V.null, st.fail 13) else match (if rest = [] then readF n .below i ⟨st.l, st.at_ + 1, st.bad⟩ else inlS rest ⟨st.l, st.at_ + 1, st.bad⟩) with
     | (v, st1) => readF n (.pairs (minsert (toB key) v out)) i st1)
   else (vMap out, st)
def wAt (l : List (Nat × Bs)) : Nat := (l.map fun x => x.2.length + 1).sum
def YR.w (st : YR) : Nat := wAt (st.l.drop st.at_)
def parseT (ls : List (Nat × Bs)) : V × Int := match ls with
 | [] => (V.null, 0)
 | (i, _) :: _ => match readF (3 * wAt ls + 3) .block i ⟨ls, 0, 0⟩ with
  | (v, st) => if st.bad ≠ 0 then (V.null, st.bad) else if st.at_ < ls.length then (V.null, 10) else if v.checkC ≠ 0 then (V.null, v.checkC) else (v, 0)
def parseL (s : ByteArray) : V × Int := if 65536 < s.size then (V.null, 6) else match linesL ((splT 10 s).map fun x => x.data.toList) with
 | none => (V.null, 12)
 | some ls => parseT ls
end Go.Proofs.YtnpkejnaeemgjaaGreatDoor
/-
 What yaml.Parse reads is bounded by its text: plain laws.
-/
namespace Go.Proofs.YtnpkejnaeemgjaaGreatDoor
open Go.RowKit
theorem tl_len (l : Bs) : (tl l).length ≤ l.length := (List.dropWhile_sublist _).length_le
theorem tr_len (l : Bs) : (tr l).length ≤ l.length := by
 unfold tr Lib.trimRightB
 have := (List.dropWhile_sublist (p := (· == (32 : UInt8))) (l := l.reverse)).length_le
 simpa using this
theorem dbl_len : ∀ (n : Nat) (l out x r : Bs), l.length ≤ n → dbl l out = some (x, r) → x.length + r.length + 1 ≤ out.length + l.length := by
 intro n
 induction n with
 | zero =>
  intro l out x r hl h
  have : l = [] := List.eq_nil_of_length_eq_zero (by omega)
  subst this
  simp [dbl] at h
 | succ n ih =>
  intro l out x r hl h
  cases l with
  | nil => simp [dbl] at h
  | cons c l =>
   rw [dbl_cons] at h
   simp only [List.length_cons] at hl ⊢
   split at h
   ·cases h; omega
   ·split at h
    ·cases l with
     | nil => cases h
     | cons d l =>
      simp only [List.length_cons] at hl ⊢
      simp only at h
      split at h
      ·have := ih l _ x r (by omega) h; simp at this; omega
      ·split at h
       ·have := ih l _ x r (by omega) h; simp at this; omega
       ·split at h
        ·have := ih l _ x r (by omega) h; simp at this; omega
        ·cases h
    ·split at h
     ·cases h
     ·have := ih l _ x r (by omega) h; simp at this; omega
theorem sgl_len : ∀ (n : Nat) (l out x r : Bs), l.length ≤ n → sgl l out = some (x, r) → x.length + r.length + 1 ≤ out.length + l.length := by
 intro n
 induction n with
 | zero =>
  intro l out x r hl h
  have : l = [] := List.eq_nil_of_length_eq_zero (by omega)
  subst this
  simp [sgl] at h
 | succ n ih =>
  intro l out x r hl h
  cases l with
  | nil => simp [sgl] at h
  | cons c l =>
   rw [sgl_cons] at h
   simp only [List.length_cons] at hl ⊢
   split at h
   ·cases l with
    | nil => cases h; simp
    | cons d l =>
     simp only [List.length_cons] at hl ⊢
     simp only at h
     split at h
     ·have := ih l _ x r (by omega) h; simp at this; omega
     ·cases h; simp only [List.length_cons]; omega
   ·have := ih l _ x r (by omega) h; simp at this; omega
theorem unq_len {l x r : Bs} (h : unqL l = some (x, r)) : x.length + r.length + 2 ≤ l.length := by
 cases l with
 | nil => cases h
 | cons c l =>
  simp only [unqL] at h
  simp only [List.length_cons]
  split at h
  ·have := dbl_len _ l _ x r (Nat.le_refl _) h; simp at this; omega
  ·split at h
   ·have := sgl_len _ l _ x r (Nat.le_refl _) h; simp at this; omega
   ·cases h
theorem scal_leaf (s : ByteArray) : (scalP s).1.ord ∧ (s.size ≤ 1000000 → (scalP s).1.sb) ∧ (scalP s).1.size = 1 := by
 have hz : ∀ k b n s, (V.mk k b n s [] []).size = 1 := fun k b n s => by rw [V.size_eq]; rfl
 have ho : ∀ k b n s, k ≠ 5 → (V.mk k b n s [] []).ord := fun k b n s hk => (V.ord_eq _).2 ⟨fun h => absurd h hk, fun _ => rfl, List.Pairwise.nil, fun p hp => by cases hp⟩
 have hs : ∀ k b n s, s.size ≤ 1000000 → (V.mk k b n s [] []).sb := fun k b n s h => (V.sb_eq _).2 ⟨by show s.size ≤ _; omega, ⟨by simp [V.l], by simp [V.m]⟩, (sbL_iff _).2 (fun x hx => by cases hx), (sbM_iff _).2 (fun x hx => by cases hx)⟩
 unfold scalP
 split
 ·exact ⟨ho _ _ _ _ (by decide), fun _ => hs _ _ _ _ (by decide), hz _ _ _ _⟩
 ·split
  ·exact ⟨ho _ _ _ _ (by decide), fun _ => hs _ _ _ _ (by decide), hz _ _ _ _⟩
  ·split
   ·exact ⟨ho _ _ _ _ (by decide), fun h => hs _ _ _ _ h, hz _ _ _ _⟩
   ·split
    ·exact ⟨ho _ _ _ _ (by decide), fun _ => hs _ _ _ _ (by decide), hz _ _ _ _⟩
    ·exact ⟨ho _ _ _ _ (by decide), fun _ => hs _ _ _ _ (by decide), hz _ _ _ _⟩
def RdL (l : List V) : Prop := ∀ x ∈ l, x.ord ∧ x.sb
def RdM (m : List (ByteArray × V)) : Prop := Rises m ∧ ∀ p ∈ m, p.1.size ≤ 1000000 ∧ p.2.ord ∧ p.2.sb
def FMok : FM → Prop
 | .one _ => True
 | .flow out => RdL out
 | .braces out => RdM out
def FMsz : FM → Nat
 | .one _ => 0
 | .flow out => sizeL out
 | .braces out => sizeM out
theorem vList_size (l : List V) : (vList l).size = 1 + sizeL l := by simp [vList, V.size, sizeM]
theorem null_sb : V.null.sb := (V.sb_eq _).2 ⟨by decide, ⟨by simp [V.null, V.l], by simp [V.null, V.m]⟩, (sbL_iff _).2 (fun x hx => by cases hx), (sbM_iff _).2 (fun x hx => by cases hx)⟩
theorem str_rd (s : ByteArray) (h : s.size ≤ 1000000) : (V.str s).ord ∧ (V.str s).sb ∧ (V.str s).size = 1 :=
 ⟨(V.ord_eq _).2 ⟨fun h => absurd h (by simp [V.str, V.kind]), fun _ => rfl, List.Pairwise.nil, fun p hp => by cases hp⟩,
  (V.sb_eq _).2 ⟨by show s.size ≤ _; omega, ⟨by simp [V.str, V.l], by simp [V.str, V.m]⟩, (sbL_iff _).2 (fun x hx => by cases hx), (sbM_iff _).2 (fun x hx => by cases hx)⟩, by rw [V.size_eq]; rfl⟩
theorem vList_rd {l : List V} (h : RdL l) (hz : sizeL l ≤ 2000000000000) : (vList l).ord ∧ (vList l).sb :=
 ⟨(V.ord_eq _).2 ⟨fun h => absurd h (by simp [vList, V.kind]), fun _ => rfl, List.Pairwise.nil, fun p hp => by cases hp⟩,
  (V.sb_eq _).2 ⟨by show ByteArray.size ⟨#[]⟩ ≤ _; decide, ⟨by show l.length ≤ _; have := len_le_sizeL l; omega, by simp [vList, V.m]⟩, (sbL_iff _).2 (fun x hx => (h x hx).2), (sbM_iff _).2 (fun x hx => by cases hx)⟩⟩
theorem vMap_rd {m : List (ByteArray × V)} (h : RdM m) (hz : sizeM m ≤ 2000000000000) : (vMap m).ord ∧ (vMap m).sb :=
 ⟨vMap_ord h.1 fun p hp => (h.2 p hp).2.1,
  (V.sb_eq _).2 ⟨by show ByteArray.size ⟨#[]⟩ ≤ _; decide, ⟨by simp [vMap, V.l], by show m.length ≤ _; have := len_le_sizeM m; omega⟩, (sbL_iff _).2 (fun x hx => by cases hx), (sbM_iff _).2 (fun p hp => ⟨by have := (h.2 p hp).1; omega, (h.2 p hp).2.2⟩)⟩⟩
theorem RdL.snoc {l : List V} {x : V} (h : RdL l) (ho : x.ord) (hs : x.sb) : RdL (l ++ [x]) := by
 intro y hy
 rcases List.mem_append.1 hy with hy | hy
 ·exact h y hy
 ·simp at hy; subst hy; exact ⟨ho, hs⟩
theorem RdM.put {m : List (ByteArray × V)} {k : ByteArray} {x : V} (h : RdM m) (hk : k.size ≤ 1000000) (ho : x.ord) (hs : x.sb) : RdM (minsert k x m) := by
 refine ⟨minsert_rises h.1, fun p hp => ?_⟩
 rcases minsert_mem hp with rfl | hp
 ·exact ⟨hk, ho, hs⟩
 ·exact h.2 p hp
theorem minsert_le (k : ByteArray) (x : V) : ∀ m : List (ByteArray × V), sizeM (minsert k x m) ≤ sizeM m + x.size
 | [] => by simp [minsert, sizeM]
 | (y, z) :: m => by
  have := minsert_le k x m
  rw [minsert]
  split
  ·simp only [sizeM]; omega
  ·split
   ·simp only [sizeM]; omega
   ·simp only [sizeM]; omega
theorem keyF_len {s key rest : Bs} (h : keyF s = (key, rest, 0)) : key.length ≤ s.length ∧ rest.length + 1 ≤ s.length := by
 unfold keyF at h
 split at h
 ·split at h
  ·cases h
  ·rename_i x r hu
   have := unq_len hu
   split at h
   ·cases h
   ·rename_i c r'
    simp only [List.length_cons] at this
    split at h
    ·cases h; omega
    ·cases h
 ·split at h
  ·cases h
  ·rename_i hi
   split at h
   ·cases h
   ·cases h
    have h1 := tr_len (s.take (Lib.indexByte s 58).toNat)
    rcases ixT_cases s 58 with ⟨h2, _⟩ | ⟨i, h2, h3, _⟩
    ·exact absurd h2 hi
    ·rw [h2] at h1 ⊢
     simp only [Int.toNat_natCast, List.length_take, List.length_drop] at h1 ⊢
     omega
structure FOk (sz : Nat) (s : Bs) (r : V × Bs × Int) : Prop where
 ord : r.1.ord
 sb : r.1.sb
 le : r.2.1.length ≤ s.length
 fit : r.2.2 = 0 → r.1.size + r.2.1.length ≤ s.length + sz
 any : r.1.size ≤ s.length + sz + 1
theorem FOk.bad (sz : Nat) (s : Bs) {e : Int} (h : e ≠ 0) : FOk sz s (V.null, [], e) := ⟨null_ord, null_sb, by simp, fun h' => absurd h' h, by rw [null_size]; omega⟩
theorem flow_ok : ∀ (n : Nat) (m : FM) (s : Bs), s.length ≤ 1000000 → FMsz m + s.length ≤ 1000000000 → FMok m → FOk (FMsz m) s (flowF n m s)
 | 0, m, s, _, _, _ => FOk.bad _ _ (by decide)
 | n + 1, .one ends, s, hs, hz, hm => by
  have hl := tl_len s
  unfold flowF
  split
  ·exact FOk.bad _ _ (by decide)
  ·rename_i c t ht
   rw [ht] at hl
   simp only [List.length_cons] at hl
   have hl2 := tl_len t
   split
   ·split
    ·have h := flow_ok n (.flow []) [] (by simp) (by simp [FMsz, sizeL]) (fun x hx => by cases hx)
     exact ⟨h.ord, h.sb, Nat.le_trans (show _ ≤ 0 from h.le) (Nat.zero_le _), fun he => by have := h.fit he; simp only [FMsz, sizeL, List.length_nil] at this ⊢; omega, by have := h.any; simp only [FMsz, sizeL, List.length_nil] at this ⊢; omega⟩
    ·rename_i d u hu
     rw [hu] at hl2
     simp only [List.length_cons] at hl2
     split
     ·have h1 := tl_len u
      have h2 := vList_rd (l := []) (fun x hx => by cases hx) (by simp [sizeL])
      exact ⟨h2.1, h2.2, by simp only; omega, fun _ => by rw [vList_size]; simp only [sizeL, FMsz]; omega, by rw [vList_size]; simp only [sizeL, FMsz]; omega⟩
     ·have h := flow_ok n (.flow []) (d :: u) (by simp only [List.length_cons]; omega) (by simp only [FMsz, sizeL, List.length_cons]; omega) (fun x hx => by cases hx)
      exact ⟨h.ord, h.sb, by have := h.le; simp only [List.length_cons] at this; omega, fun he => by have := h.fit he; simp only [FMsz, sizeL, List.length_cons] at this ⊢; omega, by have := h.any; simp only [FMsz, sizeL, List.length_cons] at this ⊢; omega⟩
   ·split
    ·split
     ·have h := flow_ok n (.braces []) [] (by simp) (by simp [FMsz, sizeM]) ⟨List.Pairwise.nil, fun x hx => by cases hx⟩
      exact ⟨h.ord, h.sb, Nat.le_trans (show _ ≤ 0 from h.le) (Nat.zero_le _), fun he => by have := h.fit he; simp only [FMsz, sizeM, List.length_nil] at this ⊢; omega, by have := h.any; simp only [FMsz, sizeM, List.length_nil] at this ⊢; omega⟩
     ·rename_i d u hu
      rw [hu] at hl2
      simp only [List.length_cons] at hl2
      split
      ·have h1 := tl_len u
       have h2 := vMap_rd (m := []) ⟨List.Pairwise.nil, fun x hx => by cases hx⟩ (by simp [sizeM])
       exact ⟨h2.1, h2.2, by simp only; omega, fun _ => by rw [vMap_size]; simp only [sizeM, FMsz]; omega, by rw [vMap_size]; simp only [sizeM, FMsz]; omega⟩
      ·have h := flow_ok n (.braces []) (d :: u) (by simp only [List.length_cons]; omega) (by simp only [FMsz, sizeM, List.length_cons]; omega) ⟨List.Pairwise.nil, fun x hx => by cases hx⟩
       exact ⟨h.ord, h.sb, by have := h.le; simp only [List.length_cons] at this; omega, fun he => by have := h.fit he; simp only [FMsz, sizeM, List.length_cons] at this ⊢; omega, by have := h.any; simp only [FMsz, sizeM, List.length_cons] at this ⊢; omega⟩
    ·split
     ·split
      ·have h := str_rd ⟨#[]⟩ (by decide)
       exact ⟨h.1, h.2.1, by simp, (fun he => absurd he (by decide)), (by rw [h.2.2]; omega)⟩
      ·rename_i x rest hu
       have h1 := unq_len hu
       simp only [List.length_cons] at h1
       have h2 := tl_len rest
       have h := str_rd (toB x) (by show x.length ≤ _; omega)
       exact ⟨h.1, h.2.1, by simp only; omega, fun _ => by rw [h.2.2]; simp only [FMsz]; omega, by rw [h.2.2]; omega⟩
     ·split
      ·exact FOk.bad _ _ (by decide)
      ·rename_i hw
       have hne : 1 ≤ endAt ends (c :: t) := by
        rcases Nat.eq_zero_or_pos (endAt ends (c :: t)) with h0 | h0
        ·rw [h0] at hw
         simp [badWord, tr, Lib.trimRightB] at hw
        ·exact h0
       have hsz : (tr ((c :: t).take (endAt ends (c :: t)))).length ≤ s.length := by
        have h1 := tr_len ((c :: t).take (endAt ends (c :: t)))
        have h2 : ((c :: t).take (endAt ends (c :: t))).length ≤ (c :: t).length := by rw [List.length_take]; omega
        simp only [List.length_cons] at h2
        omega
       have h := scal_leaf (toB (tr ((c :: t).take (endAt ends (c :: t)))))
       exact ⟨h.1, h.2.1 (by show (tr ((c :: t).take (endAt ends (c :: t)))).length ≤ _; omega), by simp only [List.length_drop, List.length_cons]; omega, fun _ => by rw [h.2.2]; simp only [FMsz, List.length_drop, List.length_cons]; omega, by rw [h.2.2]; omega⟩
 | n + 1, .flow out, s, hs, hz, hm => by
  have h := flow_ok n (.one [44, 93]) s hs (by simp only [FMsz] at hz ⊢; omega) trivial
  unfold flowF
  split
  rename_i v rest e hr
  rw [hr] at h
  split
  ·rename_i he; exact FOk.bad _ _ he
  ·rename_i he
   have he : e = 0 := by simpa using he
   have hf := h.fit he
   simp only [FMsz] at hf hz
   have hso : RdL (out ++ [v]) := RdL.snoc hm h.ord h.sb
   have hsz : sizeL (out ++ [v]) = sizeL out + v.size := by rw [sizeL_append]; simp [sizeL]
   split
   ·exact FOk.bad _ _ (by decide)
   ·rename_i c u
    simp only [List.length_cons] at hf
    split
    ·have h1 := tl_len u
     have h2 := vList_rd hso (by omega)
     exact ⟨h2.1, h2.2, by simp only; omega, fun _ => by rw [vList_size, hsz]; simp only [FMsz]; omega, by rw [vList_size, hsz]; simp only [FMsz]; omega⟩
    ·split
     ·have h3 := flow_ok n (.flow (out ++ [v])) u (by omega) (by simp only [FMsz, hsz]; omega) hso
      exact ⟨h3.ord, h3.sb, by have := h3.le; omega, fun he => by have := h3.fit he; simp only [FMsz, hsz] at this ⊢; omega, by have := h3.any; simp only [FMsz, hsz] at this ⊢; omega⟩
     ·exact FOk.bad _ _ (by decide)
 | n + 1, .braces out, s, hs, hz, hm => by
  have hl := tl_len s
  unfold flowF
  split
  rename_i key rest k hk
  split
  ·rename_i he; exact FOk.bad _ _ he
  ·rename_i he
   have he : k = 0 := by simpa using he
   subst he
   obtain ⟨k1, k2⟩ := keyF_len hk
   split
   ·exact FOk.bad _ _ (by decide)
   ·have h := flow_ok n (.one [44, 125]) rest (by omega) (by simp only [FMsz] at hz ⊢; omega) trivial
    split
    rename_i v more e hr
    rw [hr] at h
    split
    ·rename_i he; exact FOk.bad _ _ he
    ·rename_i he
     have he : e = 0 := by simpa using he
     have hf := h.fit he
     simp only [FMsz] at hf hz
     have hso : RdM (minsert (toB key) v out) := RdM.put hm (by show key.length ≤ _; omega) h.ord h.sb
     have hsz := minsert_le (toB key) v out
     split
     ·exact FOk.bad _ _ (by decide)
     ·rename_i c u
      simp only [List.length_cons] at hf
      split
      ·have h1 := tl_len u
       have h2 := vMap_rd hso (by omega)
       exact ⟨h2.1, h2.2, by simp only; omega, fun _ => by rw [vMap_size]; simp only [FMsz]; omega, by rw [vMap_size]; simp only [FMsz]; omega⟩
      ·split
       ·have h3 := flow_ok n (.braces (minsert (toB key) v out)) u (by omega) (by simp only [FMsz]; omega) hso
        exact ⟨h3.ord, h3.sb, by have := h3.le; omega, fun he => by have := h3.fit he; simp only [FMsz] at this ⊢; omega, by have := h3.any; simp only [FMsz] at this ⊢; omega⟩
       ·exact FOk.bad _ _ (by decide)
theorem inline_ok (s : Bs) (hs : s.length ≤ 1000000) : (inlineL s).1.ord ∧ (inlineL s).1.sb ∧ (inlineL s).1.size ≤ s.length + 1 := by
 have h := flow_ok (2 * s.length + 1) (.one []) s hs (by simp only [FMsz]; omega) trivial
 unfold inlineL
 split
 rename_i v rest e hr
 rw [hr] at h
 split
 ·exact ⟨null_ord, null_sb, by rw [null_size]; omega⟩
 ·split
  ·exact ⟨null_ord, null_sb, by rw [null_size]; omega⟩
  ·exact ⟨h.ord, h.sb, by have := h.any; simp only [FMsz] at this; omega⟩
end Go.Proofs.YtnpkejnaeemgjaaGreatDoor
/-
 What yaml's reader reads is bounded by its lines: plain laws.
-/
namespace Go.Proofs.YtnpkejnaeemgjaaGreatDoor
open Go.RowKit
theorem split_len {s key rest : Bs} (h : splitL s = some (key, rest)) : key.length ≤ s.length ∧ rest.length ≤ s.length := by
 unfold splitL at h
 split at h
 ·split at h
  ·cases h
  ·rename_i x r hu
   have := unq_len hu
   split at h
   ·cases h
   ·rename_i c r'
    simp only [List.length_cons] at this
    split at h
    ·split at h
     ·cases h; simp; omega
     ·rename_i d r2
      have h2 := tl_len (d :: r2)
      simp only [List.length_cons] at this h2
      split at h
      ·cases h; omega
      ·cases h
    ·cases h
 ·split at h
  ·split at h
   ·split at h
    ·cases h
    ·cases h
     have h1 := tr_len (s.take (s.length - 1))
     rw [List.length_take] at h1
     simp
     omega
   ·cases h
  ·split at h
   ·cases h
   ·cases h
    have h1 := tr_len (s.take (Lib.index s [58, 32]).toNat)
    have h2 := tl_len (s.drop ((Lib.index s [58, 32]).toNat + 1))
    rw [List.length_take] at h1
    rw [List.length_drop] at h2
    omega
structure YInv (st : YR) : Prop where
 at_ : st.at_ ≤ st.l.length
 len : st.l.length ≤ 1000000
 ln : ∀ x ∈ st.l, x.1 + x.2.length ≤ 1000000
def YMok : YM → Prop
 | .block => True
 | .below => True
 | .list out => RdL out
 | .pairs out => RdM out
def YMsz : YM → Nat
 | .block => 0
 | .below => 0
 | .list out => sizeL out
 | .pairs out => sizeM out
theorem YR.w_at {st : YR} {x : Nat × Bs} (h : st.l[st.at_]? = some x) : st.w = x.2.length + 1 + (YR.mk st.l (st.at_ + 1) st.bad).w := by
 unfold YR.w wAt
 rw [drop_at h, List.map_cons, List.sum_cons]
theorem YR.w_set {st : YR} {x y : Nat × Bs} (h : st.l[st.at_]? = some x) : (YR.mk (st.l.set st.at_ y) st.at_ st.bad).w = y.2.length + 1 + (YR.mk st.l (st.at_ + 1) st.bad).w := by
 have hl := (List.getElem?_eq_some_iff.1 h).1
 unfold YR.w wAt
 simp only
 rw [drop_at (x := y) (by rw [List.getElem?_set_self hl]), List.map_cons, List.sum_cons, List.drop_set_of_lt (by omega)]
theorem YR.w_fail (st : YR) (e : Int) : (st.fail e).w = 0 := by unfold YR.w YR.fail wAt; simp
theorem YInv.fail {st : YR} (h : YInv st) (e : Int) : YInv (st.fail e) := ⟨Nat.le_refl _, h.len, h.ln⟩
theorem YInv.next {st : YR} (h : YInv st) {x : Nat × Bs} (hx : st.l[st.at_]? = some x) : YInv ⟨st.l, st.at_ + 1, st.bad⟩ := ⟨(List.getElem?_eq_some_iff.1 hx).1, h.len, h.ln⟩
theorem YInv.set {st : YR} (h : YInv st) {y : Nat × Bs} (hy : y.1 + y.2.length ≤ 1000000) : YInv ⟨st.l.set st.at_ y, st.at_, st.bad⟩ := by
 refine ⟨by simpa using h.at_, by simpa using h.len, fun x hx => ?_⟩
 rcases List.mem_or_eq_of_mem_set hx with hx | rfl
 ·exact h.ln x hx
 ·exact hy
structure ROk (sz : Nat) (st : YR) (r : V × YR) : Prop where
 ord : r.1.ord
 sb : r.1.sb
 inv : YInv r.2
 len : r.2.l.length = st.l.length
 w : r.2.w ≤ st.w
 fit : r.1.size + r.2.w ≤ st.w + 1 + sz
theorem ROk.failed {st st1 : YR} (h : YInv st1) (hl : st1.l.length = st.l.length) (sz : Nat) (e : Int) : ROk sz st (V.null, st1.fail e) :=
 ⟨null_ord, null_sb, h.fail e, hl, by rw [YR.w_fail]; omega, by rw [YR.w_fail, null_size]; omega⟩
theorem inl_ok {st : YR} (h : YInv st) {s : Bs} (hs : s.length ≤ 1000000) : (inlS s st).1.ord ∧ (inlS s st).1.sb ∧ YInv (inlS s st).2 ∧ (inlS s st).2.l.length = st.l.length ∧ (inlS s st).2.w ≤ st.w ∧ (inlS s st).1.size ≤ s.length + 1 := by
 have hi := inline_ok s hs
 unfold inlS
 split
 rename_i v e he
 rw [he] at hi
 split
 ·exact ⟨null_ord, null_sb, h.fail e, rfl, by rw [YR.w_fail]; omega, by rw [null_size]; omega⟩
 ·exact ⟨hi.1, hi.2.1, h, rfl, Nat.le_refl _, hi.2.2⟩
theorem item_len {s : Bs} (h : isItem s = true) : (tl (s.drop 1)).length + 1 ≤ s.length := by
 have h1 := tl_len (s.drop 1)
 have h2 : 1 ≤ s.length := by
  cases s with
  | nil => simp [isItem] at h
  | cons c l => simp
 rw [List.length_drop] at h1
 omega
theorem read_ok : ∀ (n : Nat) (m : YM) (i : Nat) (st : YR), YInv st → st.w + YMsz m ≤ 1000000000 → YMok m → ROk (YMsz m) st (readF n m i st)
 | 0, m, i, st, h, _, _ => ⟨null_ord, null_sb, h, rfl, Nat.le_refl _, by show V.null.size + st.w ≤ _; rw [null_size]; omega⟩
 | n + 1, .block, i, st, h, hw, _ => by
  unfold readF
  split
  ·exact ⟨null_ord, null_sb, h, rfl, Nat.le_refl _, by show V.null.size + st.w ≤ _; rw [null_size]; omega⟩
  ·rename_i j text hx
   have hln := h.ln _ (List.mem_of_getElem? hx)
   have hwx := YR.w_at hx
   simp only at hln hwx
   have key : ROk 0 st (if isItem text = true then readF n (.list []) i st else if (splitL text).isSome = true then readF n (.pairs []) i st else inlS text ⟨st.l, st.at_ + 1, st.bad⟩) := by
    split
    ·exact read_ok n (.list []) i st h (by simp only [YMsz, sizeL] at hw ⊢; omega) (fun x hx => by cases hx)
    ·split
     ·exact read_ok n (.pairs []) i st h (by simp only [YMsz, sizeM] at hw ⊢; omega) ⟨List.Pairwise.nil, fun x hx => by cases hx⟩
     ·obtain ⟨k1, k2, k3, k4, k5, k6⟩ := inl_ok (h.next hx) (s := text) (by omega)
      exact ⟨k1, k2, k3, k4, by omega, by omega⟩
   split
   rename_i v st1 hr
   rw [hr] at key
   split
   ·exact ROk.failed key.inv key.len _ _
   ·exact key
 | n + 1, .below, i, st, h, hw, _ => by
  unfold readF
  split
  ·exact ⟨null_ord, null_sb, h, rfl, Nat.le_refl _, by show V.null.size + st.w ≤ _; rw [null_size]; omega⟩
  ·rename_i j t hx
   split
   ·exact read_ok n .block j st h hw trivial
   ·exact ⟨null_ord, null_sb, h, rfl, Nat.le_refl _, by show V.null.size + st.w ≤ _; rw [null_size]; omega⟩
 | n + 1, .list out, i, st, h, hw, hm => by
  have hend : ROk (YMsz (.list out)) st (vList out, st) := by
   have h1 := vList_rd hm (by simp only [YMsz] at hw; omega)
   exact ⟨h1.1, h1.2, h, rfl, Nat.le_refl _, by rw [vList_size]; simp only [YMsz]; omega⟩
  unfold readF
  split
  ·exact hend
  ·rename_i j text hx
   have hln := h.ln _ (List.mem_of_getElem? hx)
   have hwx := YR.w_at hx
   simp only at hln hwx
   split
   ·rename_i hc
    obtain ⟨rfl, hit⟩ := hc
    have hil := item_len hit
    simp only [YMsz] at hw
    have go : ∀ v st1, ROk 0 st (v, st1) → v.size + st1.w ≤ st.w → ROk (YMsz (.list out)) st (readF n (.list (out ++ [v])) j st1) := fun v st1 k1 k2 => by
     have hsz : sizeL (out ++ [v]) = sizeL out + v.size := by rw [sizeL_append]; simp [sizeL]
     have k1i := k1.inv
     have k1l := k1.len
     have k1w := k1.w
     simp only at k1i k1l k1w
     have h3 := read_ok n (.list (out ++ [v])) j st1 k1i (by simp only [YMsz, hsz]; omega) (hm.snoc k1.ord k1.sb)
     exact ⟨h3.ord, h3.sb, h3.inv, h3.len.trans k1l, Nat.le_trans h3.w k1w, by have := h3.fit; simp only [YMsz, hsz] at this ⊢; omega⟩
    split
    ·have h2 := read_ok n .below j ⟨st.l, st.at_ + 1, st.bad⟩ (h.next hx) (by simp only [YMsz]; omega) trivial
     split
     rename_i v st1 hr
     rw [hr] at h2
     have f := h2.fit
     have w := h2.w
     simp only [YMsz] at f w
     exact go v st1 ⟨h2.ord, h2.sb, h2.inv, h2.len, by simp only; omega, by simp only; omega⟩ (by omega)
    ·have hset := YR.w_set (st := st) (y := (j + text.length - (tl (text.drop 1)).length, tl (text.drop 1))) hx
     simp only at hset
     have h2 := read_ok n .block (j + text.length - (tl (text.drop 1)).length) ⟨st.l.set st.at_ (j + text.length - (tl (text.drop 1)).length, tl (text.drop 1)), st.at_, st.bad⟩ (h.set (by simp only; omega)) (by simp only [YMsz]; omega) trivial
     split
     rename_i v st1 hr
     rw [hr] at h2
     have f := h2.fit
     have w := h2.w
     have l := h2.len
     simp only [YMsz] at f w l
     rw [List.length_set] at l
     exact go v st1 ⟨h2.ord, h2.sb, h2.inv, l, by simp only; omega, by simp only; omega⟩ (by omega)
   ·exact hend
 | n + 1, .pairs out, i, st, h, hw, hm => by
  have hend : ROk (YMsz (.pairs out)) st (vMap out, st) := by
   have h1 := vMap_rd hm (by simp only [YMsz] at hw; omega)
   exact ⟨h1.1, h1.2, h, rfl, Nat.le_refl _, by rw [vMap_size]; simp only [YMsz]; omega⟩
  unfold readF
  split
  ·exact hend
  ·rename_i j text hx
   have hln := h.ln _ (List.mem_of_getElem? hx)
   have hwx := YR.w_at hx
   simp only at hln hwx
   split
   ·rename_i hj
    subst hj
    split
    ·exact ROk.failed h rfl _ _
    ·split
     ·exact ROk.failed h rfl _ _
     ·rename_i key rest hsp
      obtain ⟨z1, z2⟩ := split_len hsp
      split
      ·exact ROk.failed h rfl _ _
      ·simp only [YMsz] at hw
       have go : ∀ v st1, ROk 0 st (v, st1) → v.size + st1.w ≤ st.w → ROk (YMsz (.pairs out)) st (readF n (.pairs (minsert (toB key) v out)) j st1) := fun v st1 k1 k2 => by
        have hsz := minsert_le (toB key) v out
        have k1i := k1.inv
        have k1l := k1.len
        have k1w := k1.w
        simp only at k1i k1l k1w
        have h3 := read_ok n (.pairs (minsert (toB key) v out)) j st1 k1i (by simp only [YMsz]; omega) (hm.put (by show key.length ≤ _; omega) k1.ord k1.sb)
        exact ⟨h3.ord, h3.sb, h3.inv, h3.len.trans k1l, Nat.le_trans h3.w k1w, by have := h3.fit; simp only [YMsz] at this ⊢; omega⟩
       have key2 : ROk 0 st (if rest = [] then readF n .below j ⟨st.l, st.at_ + 1, st.bad⟩ else inlS rest ⟨st.l, st.at_ + 1, st.bad⟩) ∧ (if rest = [] then readF n .below j ⟨st.l, st.at_ + 1, st.bad⟩ else inlS rest ⟨st.l, st.at_ + 1, st.bad⟩).1.size + (if rest = [] then readF n .below j ⟨st.l, st.at_ + 1, st.bad⟩ else inlS rest ⟨st.l, st.at_ + 1, st.bad⟩).2.w ≤ st.w := by
        split
        ·have h2 := read_ok n .below j ⟨st.l, st.at_ + 1, st.bad⟩ (h.next hx) (by simp only [YMsz]; omega) trivial
         have f := h2.fit
         have w := h2.w
         simp only [YMsz] at f w
         exact ⟨⟨h2.ord, h2.sb, h2.inv, h2.len, by omega, by omega⟩, by omega⟩
        ·obtain ⟨k1, k2, k3, k4, k5, k6⟩ := inl_ok (h.next hx) (s := rest) (by omega)
         exact ⟨⟨k1, k2, k3, k4, by omega, by omega⟩, by omega⟩
       split
       rename_i v st1 hr
       rw [hr] at key2
       exact go v st1 key2.1 key2.2
   ·exact hend
end Go.Proofs.YtnpkejnaeemgjaaGreatDoor
