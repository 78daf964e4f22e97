/-
  The texts that the claim wants, one behind the other: part 14.
-/
import Derived.Test.YtbfiopoefbbknaaGreatDoorS13
import Derived.Lib.TrimByte
import Derived.Lib.IndexMore
import Derived.Test.YtbfiopoefbbknaaGreatDoorChecked
import Derived.KernelRfl
set_option linter.unusedSimpArgs false
set_option linter.unusedVariables false
namespace Go.Proofs.YtbfiopoefbbknaaGreatDoor
open Go.RowKit
abbrev Bs := List UInt8
def toB (l : Bs) : ByteArray := ⟨l.toArray⟩
def vList (l : List V) : V := .mk 4 false 0 ⟨#[]⟩ l []
def tl (l : Bs) : Bs := Lib.trimLeftB l 32
def tr (l : Bs) : Bs := Lib.trimRightB l 32
def isQ (c : UInt8) : Bool := c == 34 || c == 39
def unqL : Bs → Option (Bs × Bs)
 | [] => none
 | c :: l => if c = 34 then dbl l [] else if c = 39 then sgl l [] else none
theorem unq_eq (s : ByteArray) : unq s = unqL s.data.toList := rfl
def prevL (s : Bs) (i : Nat) : Option UInt8 := if i = 0 then none else s[i - 1]?
def blankB : Option UInt8 → Bool
 | none => true
 | some q => q == 32
def openB : Option UInt8 → Bool
 | none => true
 | some q => q == 32 || q == 91 || q == 123 || q == 44
def bareE (s : Bs) : Nat → Nat → Nat
 | 0, _ => s.length
 | n + 1, i => match s.drop i with
  | [] => s.length
  | c :: t => if (c == 35 && blankB (prevL s i)) = true then i else if (isQ c && openB (prevL s i)) = true then (match unqL (c :: t) with
   | none => s.length
   | some (_, rest) => bareE s n (s.length - rest.length))
   else bareE s n (i + 1)
def bareL (s : Bs) : Bs := s.take (bareE s (s.length + 1) 0)
def oneLine (x : Bs) : Option (Option (Nat × Bs)) :=
 match tl (tr (bareL x)) with
 | [] => some none
 | c :: t => if c = 9 then none else some (some ((tr (bareL x)).length - (c :: t).length, c :: t))
def linesL : List Bs → Option (List (Nat × Bs))
 | [] => some []
 | x :: l => match oneLine x with
  | none => none
  | some o => match linesL l with
   | none => none
   | some r => some (o.toList ++ r)
def isItem (s : Bs) : Bool := s == [45] || [45, 32].isPrefixOf s
def oddC (c : UInt8) : Bool := ([91, 93, 123, 125, 44, 38, 42, 33, 124, 62, 37, 64, 35, 63, 58, 34, 39, 96] : Bs).contains c
def oddL : Bs → Bool
 | [] => false
 | c :: _ => oddC c
def quoted : Bs → Bool
 | [] => false
 | c :: _ => isQ c
def splitL (s : Bs) : Option (Bs × Bs) :=
 if quoted s = true then (match unqL s with
  | none => none
  | some (key, rest) => match rest with
   | [] => none
   | c :: r => if c = 58 then (match r with
    | [] => some (key, [])
    | d :: _ => if d = 32 then some (key, tl r) else none) else none)
 else if Lib.index s [58, 32] < 0 then
  (if Lib.hasSuffix s [58] = true then (if tr (s.take (s.length - 1)) = [] ∨ oddL (tr (s.take (s.length - 1))) = true then none else some (tr (s.take (s.length - 1)), [])) else none)
 else if tr (s.take (Lib.index s [58, 32]).toNat) = [] ∨ oddL (tr (s.take (Lib.index s [58, 32]).toNat)) = true then none
 else some (tr (s.take (Lib.index s [58, 32]).toNat), tl (s.drop ((Lib.index s [58, 32]).toNat + 1)))
inductive FM where
 | one (ends : Bs)
 | flow (out : List V)
 | braces (out : List (ByteArray × V))
def badWord (w : Bs) : Bool := w.isEmpty || oddL w || decide (0 ≤ Lib.index w [58, 32]) || Lib.hasSuffix w [58]
def keyF (s : Bs) : Bs × Bs × Int :=
 if quoted s = true then (match unqL s with
  | none => ([], [], 11)
  | some (key, rest) => match rest with
   | [] => ([], [], 10)
   | c :: r => if c = 58 then (key, r, 0) else ([], [], 10))
 else if Lib.indexByte s 58 = -1 then ([], [], 10)
 else if ((tr (s.take (Lib.indexByte s 58).toNat)).isEmpty || oddL (tr (s.take (Lib.indexByte s 58).toNat)) || (tr (s.take (Lib.indexByte s 58).toNat)).contains 44 || (tr (s.take (Lib.indexByte s 58).toNat)).contains 93 || (tr (s.take (Lib.indexByte s 58).toNat)).contains 125) = true then ([], [], 10)
 else (tr (s.take (Lib.indexByte s 58).toNat), s.drop ((Lib.indexByte s 58).toNat + 1), 0)
def endAt (ends s : Bs) : Nat := if ends = [] then s.length else (s.takeWhile fun c => !ends.contains c).length
def flowF : Nat → FM → Bs → V × Bs × Int
 | 0, _, _ => (V.null, [], 10)
 | n + 1, .one ends, s => match tl s with
  | [] => (V.null, [], 10)
  | c :: t => if c = 91 then (match tl t with
    | [] => flowF n (.flow []) []
    | d :: u => if d = 93 then (vList [], tl u, 0) else flowF n (.flow []) (d :: u))
   else if c = 123 then (match tl t with
    | [] => flowF n (.braces []) []
    | d :: u => if d = 125 then (vMap [], tl u, 0) else flowF n (.braces []) (d :: u))
   else if isQ c = true then (match unqL (c :: t) with
    | none => (V.str ⟨#[]⟩, [], 11)
    | some (x, rest) => (V.str (toB x), tl rest, 0))
   else if badWord (tr ((c :: t).take (endAt ends (c :: t)))) = true then (V.null, [], 10)
   else ((scalP (toB (tr ((c :: t).take (endAt ends (c :: t)))))).1, (c :: t).drop (endAt ends (c :: t)), (scalP (toB (tr ((c :: t).take (endAt ends (c :: t)))))).2)
 | n + 1, .flow out, s => match flowF n (.one [44, 93]) s with
  | (v, rest, e) => if e ≠ 0 then (V.null, [], e) else match rest with
   | [] => (V.null, [], 10)
   | c :: u => if c = 93 then (vList (out ++ [v]), tl u, 0) else if c = 44 then flowF n (.flow (out ++ [v])) u else (V.null, [], 10)
 | n + 1, .braces out, s => match keyF (tl s) with
  | (key, rest, k) => if k ≠ 0 then (V.null, [], k) else if (mfind (toB key) out).isSome = true then (V.null, [], 13) else match flowF n (.one [44, 125]) rest with
   | (v, more, e) => if e ≠ 0 then (V.null, [], e) else match more with
    | [] => (V.null, [], 10)
    | c :: u => if c = 125 then (vMap (minsert (toB key) v out), tl u, 0) else if c = 44 then flowF n (.braces (minsert (toB key) v out)) u else (V.null, [], 10)
def inlineL (s : Bs) : V × Int := match flowF (2 * s.length + 1) (.one []) s with
 | (v, rest, e) => if e ≠ 0 then (V.null, e) else if rest ≠ [] then (V.null, 10) else (v, 0)
structure YR where
 l : List (Nat × Bs)
 at_ : Nat
 bad : Int
def YR.fail (st : YR) (e : Int) : YR := ⟨st.l, st.l.length, if st.bad = 0 then e else st.bad⟩
inductive YM where
 | block
 | below
 | list (out : List V)
 | pairs (out : List (ByteArray × V))
def inlS (s : Bs) (st : YR) : V × YR := match inlineL s with
 | (v, e) => if e ≠ 0 then (V.null, st.fail e) else (v, st)
def YR.deep (st : YR) (i : Nat) : Bool := match st.l[st.at_]? with
 | some (j, _) => decide (i < j)
 | none => false
def readF : Nat → YM → Nat → YR → V × YR
 | 0, _, _, st => (V.null, st)
 | n + 1, .block, i, st => match st.l[st.at_]? with
  | none => (V.null, st)
  | some (_, text) => match (if isItem text = true then readF n (.list []) i st else if (splitL text).isSome = true then readF n (.pairs []) i st else inlS text ⟨st.l, st.at_ + 1, st.bad⟩) with
   | (v, st1) => if st1.deep i = true then (V.null, st1.fail 12) else (v, st1)
 | n + 1, .below, i, st => match st.l[st.at_]? with
  | none => (V.null, st)
  | some (j, _) => if i < j then readF n .block j st else (V.null, st)
 | n + 1, .list out, i, st => match st.l[st.at_]? with
  | none => (vList out, st)
  | some (j, text) => if j = i ∧ isItem text = true then
    (if tl (text.drop 1) = [] then (match readF n .below i ⟨st.l, st.at_ + 1, st.bad⟩ with
     | (v, st1) => readF n (.list (out ++ [v])) i st1)
    else (match readF n .block (i + text.length - (tl (text.drop 1)).length) ⟨st.l.set st.at_ (i + text.length - (tl (text.drop 1)).length, tl (text.drop 1)), st.at_, st.bad⟩ with
     | (v, st1) => readF n (.list (out ++ [v])) i st1))
   else (vList out, st)
 | n + 1, .pairs out, i, st => match st.l[st.at_]? with
  | none => (vMap out, st)
  | some (j, text) => if j = i then (if isItem text = true then (V.null, st.fail 10) else match splitL text with
    | none => (V.null, st.fail 10)
    | some (key, rest) => if (mfind (toB key) out).isSome = true then (V.null, st.fail 13) else match (if rest = [] then readF n .below i ⟨st.l, st.at_ + 1, st.bad⟩ else inlS rest ⟨st.l, st.at_ + 1, st.bad⟩) with
     | (v, st1) => readF n (.pairs (minsert (toB key) v out)) i st1)
   else (vMap out, st)
def wAt (l : List (Nat × Bs)) : Nat := (l.map fun x => x.2.length + 1).sum
def YR.w (st : YR) : Nat := wAt (st.l.drop st.at_)
def parseT (ls : List (Nat × Bs)) : V × Int := match ls with
 | [] => (V.null, 0)
 | (i, _) :: _ => match readF (3 * wAt ls + 3) .block i ⟨ls, 0, 0⟩ with
  | (v, st) => if st.bad ≠ 0 then (V.null, st.bad) else if st.at_ < ls.length then (V.null, 10) else if v.checkC ≠ 0 then (V.null, v.checkC) else (v, 0)
def parseL (s : ByteArray) : V × Int := if 65536 < s.size then (V.null, 6) else match linesL ((splT 10 s).map fun x => x.data.toList) with
 | none => (V.null, 12)
 | some ls => parseT ls
end Go.Proofs.YtbfiopoefbbknaaGreatDoor
/-
 What yaml.Parse reads is bounded by its text: plain laws.
-/
namespace Go.Proofs.YtbfiopoefbbknaaGreatDoor
open Go.RowKit
theorem tl_len (l : Bs) : (tl l).length ≤ l.length := (List.dropWhile_sublist _).length_le
theorem tr_len (l : Bs) : (tr l).length ≤ l.length := by
 unfold tr Lib.trimRightB
 have := (List.dropWhile_sublist (p := (· == (32 : UInt8))) (l := l.reverse)).length_le
 simpa using this
theorem dbl_len : ∀ (n : Nat) (l out x r : Bs), l.length ≤ n → dbl l out = some (x, r) → x.length + r.length + 1 ≤ out.length + l.length := by
 intro n
 induction n with
 | zero =>
  intro l out x r hl h
  have : l = [] := List.eq_nil_of_length_eq_zero (by omega)
  subst this
  simp [dbl] at h
 | succ n ih =>
  intro l out x r hl h
  cases l with
  | nil => simp [dbl] at h
  | cons c l =>
   rw [dbl_cons] at h
   simp only [List.length_cons] at hl ⊢
   split at h
   ·cases h; omega
   ·split at h
    ·cases l with
     | nil => cases h
     | cons d l =>
      simp only [List.length_cons] at hl ⊢
      simp only at h
      split at h
      ·have := ih l _ x r (by omega) h; simp at this; omega
      ·split at h
       ·have := ih l _ x r (by omega) h; simp at this; omega
       ·split at h
        ·have := ih l _ x r (by omega) h; simp at this; omega
        ·cases h
    ·split at h
     ·cases h
     ·have := ih l _ x r (by omega) h; simp at this; omega
theorem sgl_len : ∀ (n : Nat) (l out x r : Bs), l.length ≤ n → sgl l out = some (x, r) → x.length + r.length + 1 ≤ out.length + l.length := by
 intro n
 induction n with
 | zero =>
  intro l out x r hl h
  have : l = [] := List.eq_nil_of_length_eq_zero (by omega)
  subst this
  simp [sgl] at h
 | succ n ih =>
  intro l out x r hl h
  cases l with
  | nil => simp [sgl] at h
  | cons c l =>
   rw [sgl_cons] at h
   simp only [List.length_cons] at hl ⊢
   split at h
   ·cases l with
    | nil => cases h; simp
    | cons d l =>
     simp only [List.length_cons] at hl ⊢
     simp only at h
     split at h
     ·have := ih l _ x r (by omega) h; simp at this; omega
     ·cases h; simp only [List.length_cons]; omega
   ·have := ih l _ x r (by omega) h; simp at this; omega
theorem unq_len {l x r : Bs} (h : unqL l = some (x, r)) : x.length + r.length + 2 ≤ l.length := by
 cases l with
 | nil => cases h
 | cons c l =>
  simp only [unqL] at h
  simp only [List.length_cons]
  split at h
  ·have := dbl_len _ l _ x r (Nat.le_refl _) h; simp at this; omega
  ·split at h
   ·have := sgl_len _ l _ x r (Nat.le_refl _) h; simp at this; omega
   ·cases h
theorem scal_leaf (s : ByteArray) : (scalP s).1.ord ∧ (s.size ≤ 1000000 → (scalP s).1.sb) ∧ (scalP s).1.size = 1 := by
 have hz : ∀ k b n s, (V.mk k b n s [] []).size = 1 := fun k b n s => by rw [V.size_eq]; rfl
 have ho : ∀ k b n s, k ≠ 5 → (V.mk k b n s [] []).ord := fun k b n s hk => (V.ord_eq _).2 ⟨fun h => absurd h hk, fun _ => rfl, List.Pairwise.nil, fun p hp => by cases hp⟩
 have hs : ∀ k b n s, s.size ≤ 1000000 → (V.mk k b n s [] []).sb := fun k b n s h => (V.sb_eq _).2 ⟨by show s.size ≤ _; omega, ⟨by simp [V.l], by simp [V.m]⟩, (sbL_iff _).2 (fun x hx => by cases hx), (sbM_iff _).2 (fun x hx => by cases hx)⟩
 unfold scalP
 split
 ·exact ⟨ho _ _ _ _ (by decide), fun _ => hs _ _ _ _ (by decide), hz _ _ _ _⟩
 ·split
  ·exact ⟨ho _ _ _ _ (by decide), fun _ => hs _ _ _ _ (by decide), hz _ _ _ _⟩
  ·split
   ·exact ⟨ho _ _ _ _ (by decide), fun h => hs _ _ _ _ h, hz _ _ _ _⟩
   ·split
    ·exact ⟨ho _ _ _ _ (by decide), fun _ => hs _ _ _ _ (by decide), hz _ _ _ _⟩
    ·exact ⟨ho _ _ _ _ (by decide), fun _ => hs _ _ _ _ (by decide), hz _ _ _ _⟩
def RdL (l : List V) : Prop := ∀ x ∈ l, x.ord ∧ x.sb
def RdM (m : List (ByteArray × V)) : Prop := Rises m ∧ ∀ p ∈ m, p.1.size ≤ 1000000 ∧ p.2.ord ∧ p.2.sb
def FMok : FM → Prop
 | .one _ => True
 | .flow out => RdL out
 | .braces out => RdM out
def FMsz : FM → Nat
 | .one _ => 0
 | .flow out => sizeL out
 | .braces out => sizeM out
theorem vList_size (l : List V) : (vList l).size = 1 + sizeL l := by simp [vList, V.size, sizeM]
theorem null_sb : V.null.sb := (V.sb_eq _).2 ⟨by decide, ⟨by simp [V.null, V.l], by simp [V.null, V.m]⟩, (sbL_iff _).2 (fun x hx => by cases hx), (sbM_iff _).2 (fun x hx => by cases hx)⟩
theorem str_rd (s : ByteArray) (h : s.size ≤ 1000000) : (V.str s).ord ∧ (V.str s).sb ∧ (V.str s).size = 1 :=
 ⟨(V.ord_eq _).2 ⟨fun h => absurd h (by simp [V.str, V.kind]), fun _ => rfl, List.Pairwise.nil, fun p hp => by cases hp⟩,
  (V.sb_eq _).2 ⟨by show s.size ≤ _; omega, ⟨by simp [V.str, V.l], by simp [V.str, V.m]⟩, (sbL_iff _).2 (fun x hx => by cases hx), (sbM_iff _).2 (fun x hx => by cases hx)⟩, by rw [V.size_eq]; rfl⟩
theorem vList_rd {l : List V} (h : RdL l) (hz : sizeL l ≤ 2000000000000) : (vList l).ord ∧ (vList l).sb :=
 ⟨(V.ord_eq _).2 ⟨fun h => absurd h (by simp [vList, V.kind]), fun _ => rfl, List.Pairwise.nil, fun p hp => by cases hp⟩,
  (V.sb_eq _).2 ⟨by show ByteArray.size ⟨#[]⟩ ≤ _; decide, ⟨by show l.length ≤ _; have := len_le_sizeL l; omega, by simp [vList, V.m]⟩, (sbL_iff _).2 (fun x hx => (h x hx).2), (sbM_iff _).2 (fun x hx => by cases hx)⟩⟩
theorem vMap_rd {m : List (ByteArray × V)} (h : RdM m) (hz : sizeM m ≤ 2000000000000) : (vMap m).ord ∧ (vMap m).sb :=
 ⟨vMap_ord h.1 fun p hp => (h.2 p hp).2.1,
  (V.sb_eq _).2 ⟨by show ByteArray.size ⟨#[]⟩ ≤ _; decide, ⟨by simp [vMap, V.l], by show m.length ≤ _; have := len_le_sizeM m; omega⟩, (sbL_iff _).2 (fun x hx => by cases hx), (sbM_iff _).2 (fun p hp => ⟨by have := (h.2 p hp).1; omega, (h.2 p hp).2.2⟩)⟩⟩
theorem RdL.snoc {l : List V} {x : V} (h : RdL l) (ho : x.ord) (hs : x.sb) : RdL (l ++ [x]) := by
 intro y hy
 rcases List.mem_append.1 hy with hy | hy
 ·exact h y hy
 ·simp at hy; subst hy; exact ⟨ho, hs⟩
theorem RdM.put {m : List (ByteArray × V)} {k : ByteArray} {x : V} (h : RdM m) (hk : k.size ≤ 1000000) (ho : x.ord) (hs : x.sb) : RdM (minsert k x m) := by
 refine ⟨minsert_rises h.1, fun p hp => ?_⟩
 rcases minsert_mem hp with rfl | hp
 ·exact ⟨hk, ho, hs⟩
 ·exact h.2 p hp
theorem minsert_le (k : ByteArray) (x : V) : ∀ m : List (ByteArray × V), sizeM (minsert k x m) ≤ sizeM m + x.size
 | [] => by simp [minsert, sizeM]
 | (y, z) :: m => by
  have := minsert_le k x m
  rw [minsert]
  split
  ·simp only [sizeM]; omega
  ·split
   ·simp only [sizeM]; omega
   ·simp only [sizeM]; omega
theorem keyF_len {s key rest : Bs} (h : keyF s = (key, rest, 0)) : key.length ≤ s.length ∧ rest.length + 1 ≤ s.length := by
 unfold keyF at h
 split at h
 ·split at h
  ·cases h
  ·rename_i x r hu
   have := unq_len hu
   split at h
   ·cases h
   ·rename_i c r'
    simp only [List.length_cons] at this
    split at h
    ·cases h; omega
    ·cases h
 ·split at h
  ·cases h
  ·rename_i hi
   split at h
   ·cases h
   ·cases h
    have h1 := tr_len (s.take (Lib.indexByte s 58).toNat)
    rcases ixT_cases s 58 with ⟨h2, _⟩ | ⟨i, h2, h3, _⟩
    ·exact absurd h2 hi
    ·rw [h2] at h1 ⊢
     simp only [Int.toNat_natCast, List.length_take, List.length_drop] at h1 ⊢
     omega
structure FOk (sz : Nat) (s : Bs) (r : V × Bs × Int) : Prop where
 ord : r.1.ord
 sb : r.1.sb
 le : r.2.1.length ≤ s.length
 fit : r.2.2 = 0 → r.1.size + r.2.1.length ≤ s.length + sz
 any : r.1.size ≤ s.length + sz + 1
theorem FOk.bad (sz : Nat) (s : Bs) {e : Int} (h : e ≠ 0) : FOk sz s (V.null, [], e) := ⟨null_ord, null_sb, by simp, fun h' => absurd h' h, by rw [null_size]; omega⟩
theorem flow_ok : ∀ (n : Nat) (m : FM) (s : Bs), s.length ≤ 1000000 → FMsz m + s.length ≤ 1000000000 → FMok m → FOk (FMsz m) s (flowF n m s)
 | 0, m, s, _, _, _ => FOk.bad _ _ (by decide)
 | n + 1, .one ends, s, hs, hz, hm => by
  have hl := tl_len s
  unfold flowF
  split
  ·exact FOk.bad _ _ (by decide)
  ·rename_i c t ht
   rw [ht] at hl
   simp only [List.length_cons] at hl
   have hl2 := tl_len t
   split
   ·split
    ·have h := flow_ok n (.flow []) [] (by simp) (by simp [FMsz, sizeL]) (fun x hx => by cases hx)
     exact ⟨h.ord, h.sb, Nat.le_trans (show _ ≤ 0 from h.le) (Nat.zero_le _), fun he => by have := h.fit he; simp only [FMsz, sizeL, List.length_nil] at this ⊢; omega, by have := h.any; simp only [FMsz, sizeL, List.length_nil] at this ⊢; omega⟩
    ·rename_i d u hu
     rw [hu] at hl2
     simp only [List.length_cons] at hl2
     split
     ·have h1 := tl_len u
      have h2 := vList_rd (l := []) (fun x hx => by cases hx) (by simp [sizeL])
      exact ⟨h2.1, h2.2, by simp only; omega, fun _ => by rw [vList_size]; simp only [sizeL, FMsz]; omega, by rw [vList_size]; simp only [sizeL, FMsz]; omega⟩
     ·have h := flow_ok n (.flow []) (d :: u) (by simp only [List.length_cons]; omega) (by simp only [FMsz, sizeL, List.length_cons]; omega) (fun x hx => by cases hx)
      exact ⟨h.ord, h.sb, by have := h.le; simp only [List.length_cons] at this; omega, fun he => by have := h.fit he; simp only [FMsz, sizeL, List.length_cons] at this ⊢; omega, by have := h.any; simp only [FMsz, sizeL, List.length_cons] at this ⊢; omega⟩
   ·split
    ·split
     ·have h := flow_ok n (.braces []) [] (by simp) (by simp [FMsz, sizeM]) ⟨List.Pairwise.nil, fun x hx => by cases hx⟩
      exact ⟨h.ord, h.sb, Nat.le_trans (show _ ≤ 0 from h.le) (Nat.zero_le _), fun he => by have := h.fit he; simp only [FMsz, sizeM, List.length_nil] at this ⊢; omega, by have := h.any; simp only [FMsz, sizeM, List.length_nil] at this ⊢; omega⟩
     ·rename_i d u hu
      rw [hu] at hl2
      simp only [List.length_cons] at hl2
      split
      ·have h1 := tl_len u
       have h2 := vMap_rd (m := []) ⟨List.Pairwise.nil, fun x hx => by cases hx⟩ (by simp [sizeM])
       exact ⟨h2.1, h2.2, by simp only; omega, fun _ => by rw [vMap_size]; simp only [sizeM, FMsz]; omega, by rw [vMap_size]; simp only [sizeM, FMsz]; omega⟩
      ·have h := flow_ok n (.braces []) (d :: u) (by simp only [List.length_cons]; omega) (by simp only [FMsz, sizeM, List.length_cons]; omega) ⟨List.Pairwise.nil, fun x hx => by cases hx⟩
       exact ⟨h.ord, h.sb, by have := h.le; simp only [List.length_cons] at this; omega, fun he => by have := h.fit he; simp only [FMsz, sizeM, List.length_cons] at this ⊢; omega, by have := h.any; simp only [FMsz, sizeM, List.length_cons] at this ⊢; omega⟩
    ·split
     ·split
      ·have h := str_rd ⟨#[]⟩ (by decide)
       exact ⟨h.1, h.2.1, by simp, (fun he => absurd he (by decide)), (by rw [h.2.2]; omega)⟩
      ·rename_i x rest hu
       have h1 := unq_len hu
       simp only [List.length_cons] at h1
       have h2 := tl_len rest
       have h := str_rd (toB x) (by show x.length ≤ _; omega)
       exact ⟨h.1, h.2.1, by simp only; omega, fun _ => by rw [h.2.2]; simp only [FMsz]; omega, by rw [h.2.2]; omega⟩
     ·split
      ·exact FOk.bad _ _ (by decide)
      ·rename_i hw
       have hne : 1 ≤ endAt ends (c :: t) := by
        rcases Nat.eq_zero_or_pos (endAt ends (c :: t)) with h0 | h0
        ·rw [h0] at hw
         simp [badWord, tr, Lib.trimRightB] at hw
        ·exact h0
       have hsz : (tr ((c :: t).take (endAt ends (c :: t)))).length ≤ s.length := by
        have h1 := tr_len ((c :: t).take (endAt ends (c :: t)))
        have h2 : ((c :: t).take (endAt ends (c :: t))).length ≤ (c :: t).length := by rw [List.length_take]; omega
        simp only [List.length_cons] at h2
        omega
       have h := scal_leaf (toB (tr ((c :: t).take (endAt ends (c :: t)))))
       exact ⟨h.1, h.2.1 (by show (tr ((c :: t).take (endAt ends (c :: t)))).length ≤ _; omega), by simp only [List.length_drop, List.length_cons]; omega, fun _ => by rw [h.2.2]; simp only [FMsz, List.length_drop, List.length_cons]; omega, by rw [h.2.2]; omega⟩
 | n + 1, .flow out, s, hs, hz, hm => by
  have h := flow_ok n (.one [44, 93]) s hs (by simp only [FMsz] at hz ⊢; omega) trivial
  unfold flowF
  split
  rename_i v rest e hr
  rw [hr] at h
  split
  ·rename_i he; exact FOk.bad _ _ he
  ·rename_i he
   have he : e = 0 := by simpa using he
   have hf := h.fit he
   simp only [FMsz] at hf hz
   have hso : RdL (out ++ [v]) := RdL.snoc hm h.ord h.sb
   have hsz : sizeL (out ++ [v]) = sizeL out + v.size := by rw [sizeL_append]; simp [sizeL]
   split
   ·exact FOk.bad _ _ (by decide)
   ·rename_i c u
    simp only [List.length_cons] at hf
    split
    ·have h1 := tl_len u
     have h2 := vList_rd hso (by omega)
     exact ⟨h2.1, h2.2, by simp only; omega, fun _ => by rw [vList_size, hsz]; simp only [FMsz]; omega, by rw [vList_size, hsz]; simp only [FMsz]; omega⟩
    ·split
     ·have h3 := flow_ok n (.flow (out ++ [v])) u (by omega) (by simp only [FMsz, hsz]; omega) hso
      exact ⟨h3.ord, h3.sb, by have := h3.le; omega, fun he => by have := h3.fit he; simp only [FMsz, hsz] at this ⊢; omega, by have := h3.any; simp only [FMsz, hsz] at this ⊢; omega⟩
     ·exact FOk.bad _ _ (by decide)
 | n + 1, .braces out, s, hs, hz, hm => by
  have hl := tl_len s
  unfold flowF
  split
  rename_i key rest k hk
  split
  ·rename_i he; exact FOk.bad _ _ he
  ·rename_i he
   have he : k = 0 := by simpa using he
   subst he
   obtain ⟨k1, k2⟩ := keyF_len hk
   split
   ·exact FOk.bad _ _ (by decide)
   ·have h := flow_ok n (.one [44, 125]) rest (by omega) (by simp only [FMsz] at hz ⊢; omega) trivial
    split
    rename_i v more e hr
    rw [hr] at h
    split
    ·rename_i he; exact FOk.bad _ _ he
    ·rename_i he
     have he : e = 0 := by simpa using he
     have hf := h.fit he
     simp only [FMsz] at hf hz
     have hso : RdM (minsert (toB key) v out) := RdM.put hm (by show key.length ≤ _; omega) h.ord h.sb
     have hsz := minsert_le (toB key) v out
     split
     ·exact FOk.bad _ _ (by decide)
     ·rename_i c u
      simp only [List.length_cons] at hf
      split
      ·have h1 := tl_len u
       have h2 := vMap_rd hso (by omega)
       exact ⟨h2.1, h2.2, by simp only; omega, fun _ => by rw [vMap_size]; simp only [FMsz]; omega, by rw [vMap_size]; simp only [FMsz]; omega⟩
      ·split
       ·have h3 := flow_ok n (.braces (minsert (toB key) v out)) u (by omega) (by simp only [FMsz]; omega) hso
        exact ⟨h3.ord, h3.sb, by have := h3.le; omega, fun he => by have := h3.fit he; simp only [FMsz] at this ⊢; omega, by have := h3.any; simp only [FMsz] at this ⊢; omega⟩
       ·exact FOk.bad _ _ (by decide)
theorem inline_ok (s : Bs) (hs : s.length ≤ 1000000) : (inlineL s).1.ord ∧ (inlineL s).1.sb ∧ (inlineL s).1.size ≤ s.length + 1 := by
 have h := flow_ok (2 * s.length + 1) (.one []) s hs (by simp only [FMsz]; omega) trivial
 unfold inlineL
 split
 rename_i v rest e hr
 rw [hr] at h
 split
 ·exact ⟨null_ord, null_sb, by rw [null_size]; omega⟩
 ·split
  ·exact ⟨null_ord, null_sb, by rw [null_size]; omega⟩
  ·exact ⟨h.ord, h.sb, by have := h.any; simp only [FMsz] at this; omega⟩
end Go.Proofs.YtbfiopoefbbknaaGreatDoor
/-
 What yaml's reader reads is bounded by its lines: plain laws.
-/
namespace Go.Proofs.YtbfiopoefbbknaaGreatDoor
open Go.RowKit
theorem split_len {s key rest : Bs} (h : splitL s = some (key, rest)) : key.length ≤ s.length ∧ rest.length ≤ s.length := by
 unfold splitL at h
 split at h
 ·split at h
  ·cases h
  ·rename_i x r hu
   have := unq_len hu
   split at h
   ·cases h
   ·rename_i c r'
    simp only [List.length_cons] at this
    split at h
    ·split at h
     ·cases h; simp; omega
     ·rename_i d r2
      have h2 := tl_len (d :: r2)
      simp only [List.length_cons] at this h2
      split at h
      ·cases h; omega
      ·cases h
    ·cases h
 ·split at h
  ·split at h
   ·split at h
    ·cases h
    ·cases h
     have h1 := tr_len (s.take (s.length - 1))
     rw [List.length_take] at h1
     simp
     omega
   ·cases h
  ·split at h
   ·cases h
   ·cases h
    have h1 := tr_len (s.take (Lib.index s [58, 32]).toNat)
    have h2 := tl_len (s.drop ((Lib.index s [58, 32]).toNat + 1))
    rw [List.length_take] at h1
    rw [List.length_drop] at h2
    omega
structure YInv (st : YR) : Prop where
 at_ : st.at_ ≤ st.l.length
 len : st.l.length ≤ 1000000
 ln : ∀ x ∈ st.l, x.1 + x.2.length ≤ 1000000
def YMok : YM → Prop
 | .block => True
 | .below => True
 | .list out => RdL out
 | .pairs out => RdM out
def YMsz : YM → Nat
 | .block => 0
 | .below => 0
 | .list out => sizeL out
 | .pairs out => sizeM out
theorem YR.w_at {st : YR} {x : Nat × Bs} (h : st.l[st.at_]? = some x) : st.w = x.2.length + 1 + (YR.mk st.l (st.at_ + 1) st.bad).w := by
 unfold YR.w wAt
 rw [drop_at h, List.map_cons, List.sum_cons]
theorem YR.w_set {st : YR} {x y : Nat × Bs} (h : st.l[st.at_]? = some x) : (YR.mk (st.l.set st.at_ y) st.at_ st.bad).w = y.2.length + 1 + (YR.mk st.l (st.at_ + 1) st.bad).w := by
 have hl := (List.getElem?_eq_some_iff.1 h).1
 unfold YR.w wAt
 simp only
 rw [drop_at (x := y) (by rw [List.getElem?_set_self hl]), List.map_cons, List.sum_cons, List.drop_set_of_lt (by omega)]
theorem YR.w_fail (st : YR) (e : Int) : (st.fail e).w = 0 := by unfold YR.w YR.fail wAt; simp
theorem YInv.fail {st : YR} (h : YInv st) (e : Int) : YInv (st.fail e) := ⟨Nat.le_refl _, h.len, h.ln⟩
theorem YInv.next {st : YR} (h : YInv st) {x : Nat × Bs} (hx : st.l[st.at_]? = some x) : YInv ⟨st.l, st.at_ + 1, st.bad⟩ := ⟨(List.getElem?_eq_some_iff.1 hx).1, h.len, h.ln⟩
theorem YInv.set {st : YR} (h : YInv st) {y : Nat × Bs} (hy : y.1 + y.2.length ≤ 1000000) : YInv ⟨st.l.set st.at_ y, st.at_, st.bad⟩ := by
 refine ⟨by simpa using h.at_, by simpa using h.len, fun x hx => ?_⟩
 rcases List.mem_or_eq_of_mem_set hx with hx | rfl
 ·exact h.ln x hx
 ·exact hy
structure ROk (sz : Nat) (st : YR) (r : V × YR) : Prop where
 ord : r.1.ord
 sb : r.1.sb
 inv : YInv r.2
 len : r.2.l.length = st.l.length
 w : r.2.w ≤ st.w
 fit : r.1.size + r.2.w ≤ st.w + 1 + sz
theorem ROk.failed {st st1 : YR} (h : YInv st1) (hl : st1.l.length = st.l.length) (sz : Nat) (e : Int) : ROk sz st (V.null, st1.fail e) :=
 ⟨null_ord, null_sb, h.fail e, hl, by rw [YR.w_fail]; omega, by rw [YR.w_fail, null_size]; omega⟩
theorem inl_ok {st : YR} (h : YInv st) {s : Bs} (hs : s.length ≤ 1000000) : (inlS s st).1.ord ∧ (inlS s st).1.sb ∧ YInv (inlS s st).2 ∧ (inlS s st).2.l.length = st.l.length ∧ (inlS s st).2.w ≤ st.w ∧ (inlS s st).1.size ≤ s.length + 1 := by
 have hi := inline_ok s hs
 unfold inlS
 split
 rename_i v e he
 rw [he] at hi
 split
 ·exact ⟨null_ord, null_sb, h.fail e, rfl, by rw [YR.w_fail]; omega, by rw [null_size]; omega⟩
 ·exact ⟨hi.1, hi.2.1, h, rfl, Nat.le_refl _, hi.2.2⟩
theorem item_len {s : Bs} (h : isItem s = true) : (tl (s.drop 1)).length + 1 ≤ s.length := by
 have h1 := tl_len (s.drop 1)
 have h2 : 1 ≤ s.length := by
  cases s with
  | nil => simp [isItem] at h
  | cons c l => simp
 rw [List.length_drop] at h1
 omega
theorem read_ok : ∀ (n : Nat) (m : YM) (i : Nat) (st : YR), YInv st → st.w + YMsz m ≤ 1000000000 → YMok m → ROk (YMsz m) st (readF n m i st)
 | 0, m, i, st, h, _, _ => ⟨null_ord, null_sb, h, rfl, Nat.le_refl _, by show V.null.size + st.w ≤ _; rw [null_size]; omega⟩
 | n + 1, .block, i, st, h, hw, _ => by
  unfold readF
  split
  ·exact ⟨null_ord, null_sb, h, rfl, Nat.le_refl _, by show V.null.size + st.w ≤ _; rw [null_size]; omega⟩
  ·rename_i j text hx
   have hln := h.ln _ (List.mem_of_getElem? hx)
   have hwx := YR.w_at hx
   simp only at hln hwx
   have key : ROk 0 st (if isItem text = true then readF n (.list []) i st else if (splitL text).isSome = true then readF n (.pairs []) i st else inlS text ⟨st.l, st.at_ + 1, st.bad⟩) := by
    split
    ·exact read_ok n (.list []) i st h (by simp only [YMsz, sizeL] at hw ⊢; omega) (fun x hx => by cases hx)
    ·split
     ·exact read_ok n (.pairs []) i st h (by simp only [YMsz, sizeM] at hw ⊢; omega) ⟨List.Pairwise.nil, fun x hx => by cases hx⟩
     ·obtain ⟨k1, k2, k3, k4, k5, k6⟩ := inl_ok (h.next hx) (s := text) (by omega)
      exact ⟨k1, k2, k3, k4, by omega, by omega⟩
   split
   rename_i v st1 hr
   rw [hr] at key
   split
   ·exact ROk.failed key.inv key.len _ _
   ·exact key
 | n + 1, .below, i, st, h, hw, _ => by
  unfold readF
  split
  ·exact ⟨null_ord, null_sb, h, rfl, Nat.le_refl _, by show V.null.size + st.w ≤ _; rw [null_size]; omega⟩
  ·rename_i j t hx
   split
   ·exact read_ok n .block j st h hw trivial
   ·exact ⟨null_ord, null_sb, h, rfl, Nat.le_refl _, by show V.null.size + st.w ≤ _; rw [null_size]; omega⟩
 | n + 1, .list out, i, st, h, hw, hm => by
  have hend : ROk (YMsz (.list out)) st (vList out, st) := by
   have h1 := vList_rd hm (by simp only [YMsz] at hw; omega)
   exact ⟨h1.1, h1.2, h, rfl, Nat.le_refl _, by rw [vList_size]; simp only [YMsz]; omega⟩
  unfold readF
  split
  ·exact hend
  ·rename_i j text hx
   have hln := h.ln _ (List.mem_of_getElem? hx)
   have hwx := YR.w_at hx
   simp only at hln hwx
   split
   ·rename_i hc
    obtain ⟨rfl, hit⟩ := hc
    have hil := item_len hit
    simp only [YMsz] at hw
    have go : ∀ v st1, ROk 0 st (v, st1) → v.size + st1.w ≤ st.w → ROk (YMsz (.list out)) st (readF n (.list (out ++ [v])) j st1) := fun v st1 k1 k2 => by
     have hsz : sizeL (out ++ [v]) = sizeL out + v.size := by rw [sizeL_append]; simp [sizeL]
     have k1i := k1.inv
     have k1l := k1.len
     have k1w := k1.w
     simp only at k1i k1l k1w
     have h3 := read_ok n (.list (out ++ [v])) j st1 k1i (by simp only [YMsz, hsz]; omega) (hm.snoc k1.ord k1.sb)
     exact ⟨h3.ord, h3.sb, h3.inv, h3.len.trans k1l, Nat.le_trans h3.w k1w, by have := h3.fit; simp only [YMsz, hsz] at this ⊢; omega⟩
    split
    ·have h2 := read_ok n .below j ⟨st.l, st.at_ + 1, st.bad⟩ (h.next hx) (by simp only [YMsz]; omega) trivial
     split
     rename_i v st1 hr
     rw [hr] at h2
     have f := h2.fit
     have w := h2.w
     simp only [YMsz] at f w
     exact go v st1 ⟨h2.ord, h2.sb, h2.inv, h2.len, by simp only; omega, by simp only; omega⟩ (by omega)
    ·have hset := YR.w_set (st := st) (y := (j + text.length - (tl (text.drop 1)).length, tl (text.drop 1))) hx
     simp only at hset
     have h2 := read_ok n .block (j + text.length - (tl (text.drop 1)).length) ⟨st.l.set st.at_ (j + text.length - (tl (text.drop 1)).length, tl (text.drop 1)), st.at_, st.bad⟩ (h.set (by simp only; omega)) (by simp only [YMsz]; omega) trivial
     split
     rename_i v st1 hr
     rw [hr] at h2
     have f := h2.fit
     have w := h2.w
     have l := h2.len
     simp only [YMsz] at f w l
     rw [List.length_set] at l
     exact go v st1 ⟨h2.ord, h2.sb, h2.inv, l, by simp only; omega, by simp only; omega⟩ (by omega)
   ·exact hend
 | n + 1, .pairs out, i, st, h, hw, hm => by
  have hend : ROk (YMsz (.pairs out)) st (vMap out, st) := by
   have h1 := vMap_rd hm (by simp only [YMsz] at hw; omega)
   exact ⟨h1.1, h1.2, h, rfl, Nat.le_refl _, by rw [vMap_size]; simp only [YMsz]; omega⟩
  unfold readF
  split
  ·exact hend
  ·rename_i j text hx
   have hln := h.ln _ (List.mem_of_getElem? hx)
   have hwx := YR.w_at hx
   simp only at hln hwx
   split
   ·rename_i hj
    subst hj
    split
    ·exact ROk.failed h rfl _ _
    ·split
     ·exact ROk.failed h rfl _ _
     ·rename_i key rest hsp
      obtain ⟨z1, z2⟩ := split_len hsp
      split
      ·exact ROk.failed h rfl _ _
      ·simp only [YMsz] at hw
       have go : ∀ v st1, ROk 0 st (v, st1) → v.size + st1.w ≤ st.w → ROk (YMsz (.pairs out)) st (readF n (.pairs (minsert (toB key) v out)) j st1) := fun v st1 k1 k2 => by
        have hsz := minsert_le (toB key) v out
        have k1i := k1.inv
        have k1l := k1.len
        have k1w := k1.w
        simp only at k1i k1l k1w
        have h3 := read_ok n (.pairs (minsert (toB key) v out)) j st1 k1i (by simp only [YMsz]; omega) (hm.put (by show key.length ≤ _; omega) k1.ord k1.sb)
        exact ⟨h3.ord, h3.sb, h3.inv, h3.len.trans k1l, Nat.le_trans h3.w k1w, by have := h3.fit; simp only [YMsz] at this ⊢; omega⟩
       have key2 : ROk 0 st (if rest = [] then readF n .below j ⟨st.l, st.at_ + 1, st.bad⟩ else inlS rest ⟨st.l, st.at_ + 1, st.bad⟩) ∧ (if rest = [] then readF n .below j ⟨st.l, st.at_ + 1, st.bad⟩ else inlS rest ⟨st.l, st.at_ + 1, st.bad⟩).1.size + (if rest = [] then readF n .below j ⟨st.l, st.at_ + 1, st.bad⟩ else inlS rest ⟨st.l, st.at_ + 1, st.bad⟩).2.w ≤ st.w := by
        split
        ·have h2 := read_ok n .below j ⟨st.l, st.at_ + 1, st.bad⟩ (h.next hx) (by simp only [YMsz]; omega) trivial
         have f := h2.fit
         have w := h2.w
         simp only [YMsz] at f w
         exact ⟨⟨h2.ord, h2.sb, h2.inv, h2.len, by omega, by omega⟩, by omega⟩
        ·obtain ⟨k1, k2, k3, k4, k5, k6⟩ := inl_ok (h.next hx) (s := rest) (by omega)
         exact ⟨⟨k1, k2, k3, k4, by omega, by omega⟩, by omega⟩
       split
       rename_i v st1 hr
       rw [hr] at key2
       exact go v st1 key2.1 key2.2
   ·exact hend
end Go.Proofs.YtbfiopoefbbknaaGreatDoor
namespace Go.Proofs.YtbfiopoefbbknaaGreatDoor
set_option maxRecDepth 100000
def b_yaml_opens : ACode :=
 .seq (gQ [⟨gO, .mov 4 (.k (.bool false))⟩]) (.seq (gQ [gM 5 0, gM 6 1, ⟨gO, .bidx 7 (.s 5) (.s 6)⟩, ⟨gO, gB 8 .eql (.s 7) (.k (.int .u8 34))⟩, gM 9 8, gN 9 false 10 0, gN 9 false 11 1, ⟨some (9, false), .bidx 12 (.s 10) (.s 11)⟩, ⟨some (9, false), .bin 13 .eql false (.s 12) (.k (.int .u8 39))⟩, ⟨gO, .pick 14 (.s 9) (.k (.bool true)) (.s 13)⟩, gM 15 14, gN 15 true 16 1, ⟨some (15, true), .bin 17 .eql false (.s 16) (gI 0)⟩, gN 15 true 18 17, gN 18 false 19 0, gN 18 false 20 1, ⟨some (18, false), .bin 21 .sub false (.s 20) (gI 1)⟩, ⟨some (18, false), .bidx 22 (.s 19) (.s 21)⟩, ⟨some (18, false), .call (some 23) (.k (.fn 94 [])) [gS ⟨#[32, 91, 123, 44]⟩, .s 22]⟩, ⟨some (18, false), .bin 24 .geq false (.s 23) (gI 0)⟩, ⟨some (15, true), .pick 25 (.s 18) (.k (.bool true)) (.s 24)⟩, ⟨gO, .pick 26 (.s 15) (.s 25) (.k (.bool false))⟩, gM 4 26]) .ret)
def a_yaml_opens : AFn := ⟨2, 27, b_yaml_opens, [.tmp 4]⟩
theorem a_yaml_opens_ok : fnAF Tryz.prog [2000049, 2000138, 2000089, 2000090, 2000048, 2000091, 2000046] Tryz.f129 = some a_yaml_opens := by kernel_rfl
theorem a_yaml_opens_cb : callable Tryz.prog 129 = true := by kernel_rfl
def b_yaml_bare : ACode :=
 .seq (gQ [⟨gO, .mov 2 (gS ⟨#[]⟩)⟩]) (.seq (.seq (gQ [gJ 3 0]) (.block 0 (.loop (.seq (.seq (gQ [gM 7 3, gM 8 0, gH 9 true 8, gV 10 .lss 7 9]) (.cond (.s 10) .skip (.exit 0))) (.seq (.block 1 (.block 2 (.seq (gQ [gM 14 0, gM 15 3, ⟨gO, .bidx 16 (.s 14) (.s 15)⟩, ⟨gO, gB 17 .eql (.s 16) (.k (.int .u8 35))⟩, gM 18 17, gN 18 true 19 3, ⟨some (18, true), .bin 20 .eql false (.s 19) (gI 0)⟩, gN 18 true 21 20, gN 21 false 22 0, gN 21 false 23 3, ⟨some (21, false), .bin 24 .sub false (.s 23) (gI 1)⟩, ⟨some (21, false), .bidx 25 (.s 22) (.s 24)⟩, ⟨some (21, false), .bin 26 .eql false (.s 25) (.k (.int .u8 32))⟩, ⟨some (18, true), .pick 27 (.s 21) (.k (.bool true)) (.s 26)⟩, ⟨gO, .pick 28 (.s 18) (.s 27) (.k (.bool false))⟩, gM 13 28]) (.cond (.s 13) (.seq (gQ [gM 29 0, gM 30 3, ⟨gO, .sub 31 true 0 (.s 29) none (some (.s 30))⟩, gM 2 31]) .ret) (.seq (gQ [gM 33 0, gM 34 3, gC 35 129 [.s 33, .s 34], gM 32 35]) (.cond (.s 32) (.seq (gQ [gM 37 0, gM 38 3, ⟨gO, .sub 39 true 0 (.s 37) (some (.s 38)) none⟩, gC 40 130 [.s 39], gM 36 40, gX 41 0 36, gX 42 1 36, gX 43 2 36, gM 4 41, gM 5 42, gM 6 43]) (.seq (.seq (gQ [gM 44 6, gU 45 .neq 44 0]) (.cond (.s 45) (.seq (gQ [gM 46 0, gM 2 46]) .ret) .skip)) (.reg [gM 47 0, gH 48 true 47, gM 49 5, gH 50 true 49, gV 51 .sub 48 50, gU 52 .sub 51 1, gM 3 52]))) .skip)))))) (.reg [gM 11 3, gU 12 .add 11 1, gM 3 12])))))) (.seq (gQ [gM 53 0, gM 2 53]) .ret))
def a_yaml_bare : AFn := ⟨1, 54, b_yaml_bare, [.tmp 2]⟩
theorem a_yaml_bare_ok : fnAF Tryz.prog [2000049, 2000138, 2000089, 2000090, 2000048, 2000091, 2000046] Tryz.f85 = some a_yaml_bare := by kernel_rfl
theorem a_yaml_bare_cb : callable Tryz.prog 85 = true := by kernel_rfl
def b_yaml_item : ACode :=
 .seq (gQ [⟨gO, .mov 2 (.k (.bool false))⟩]) (.seq (gQ [gM 3 0, ⟨gO, gB 4 .eql (.s 3) (gS ⟨#[45]⟩)⟩, gM 5 4, gN 5 false 6 0, ⟨some (5, false), .call (some 7) (.k (.fn 134 [])) [.s 6, gS ⟨#[45, 32]⟩]⟩, ⟨gO, .pick 8 (.s 5) (.k (.bool true)) (.s 7)⟩, gM 2 8]) .ret)
def a_yaml_item : AFn := ⟨1, 9, b_yaml_item, [.tmp 2]⟩
theorem a_yaml_item_ok : fnAF Tryz.prog [2000049, 2000138, 2000089, 2000090, 2000048, 2000091, 2000046] Tryz.f88 = some a_yaml_item := by kernel_rfl
theorem a_yaml_item_cb : callable Tryz.prog 88 = true := by kernel_rfl
def b_yaml_odd : ACode :=
 .seq (gQ [⟨gO, .mov 2 (.k (.bool false))⟩]) (.seq (gQ [gM 3 0, ⟨gO, gB 4 .neq (.s 3) (gS ⟨#[]⟩)⟩, gM 5 4, gN 5 true 6 0, ⟨some (5, true), .bidx 7 (.s 6) (gI 0)⟩, ⟨some (5, true), .call (some 8) (.k (.fn 94 [])) [gS ⟨#[91, 93, 123, 125, 44, 38, 42, 33, 124, 62, 37, 64, 35, 63, 58, 34, 39, 96]⟩, .s 7]⟩, ⟨some (5, true), .bin 9 .geq false (.s 8) (gI 0)⟩, ⟨gO, .pick 10 (.s 5) (.s 9) (.k (.bool false))⟩, gM 2 10]) .ret)
def a_yaml_odd : AFn := ⟨1, 11, b_yaml_odd, [.tmp 2]⟩
theorem a_yaml_odd_ok : fnAF Tryz.prog [2000049, 2000138, 2000089, 2000090, 2000048, 2000091, 2000046] Tryz.f136 = some a_yaml_odd := by kernel_rfl
theorem a_yaml_odd_cb : callable Tryz.prog 136 = true := by kernel_rfl
def b_yaml_split : ACode :=
 .seq (gQ [⟨gO, .mov 2 (gS ⟨#[]⟩)⟩, ⟨gO, .mov 3 (gS ⟨#[]⟩)⟩, ⟨gO, .mov 4 (.k (.bool false))⟩]) (.seq (.seq (gQ [gM 9 0, ⟨gO, gB 10 .neq (.s 9) (gS ⟨#[]⟩)⟩, gM 11 10, gN 11 true 12 0, ⟨some (11, true), .bidx 13 (.s 12) (gI 0)⟩, ⟨some (11, true), .bin 14 .eql false (.s 13) (.k (.int .u8 34))⟩, gN 11 true 15 14, gN 15 false 16 0, ⟨some (15, false), .bidx 17 (.s 16) (gI 0)⟩, ⟨some (15, false), .bin 18 .eql false (.s 17) (.k (.int .u8 39))⟩, ⟨some (11, true), .pick 19 (.s 15) (.k (.bool true)) (.s 18)⟩, ⟨gO, .pick 20 (.s 11) (.s 19) (.k (.bool false))⟩]) (.cond (.s 20) (.seq (gQ [gM 22 0, gC 23 130 [.s 22], gM 21 23, gX 24 0 21, gX 25 1 21, gX 26 2 21, gM 5 24, gM 6 25, gM 7 26]) (.seq (.seq (gQ [gM 27 7, gU 28 .neq 27 0, gM 29 28, gN 29 false 30 6, ⟨some (29, false), .call (some 31) (.k (.fn 134 [])) [.s 30, gS ⟨#[58]⟩]⟩, ⟨some (29, false), .un 32 .not (.s 31)⟩, ⟨gO, .pick 33 (.s 29) (.k (.bool true)) (.s 32)⟩, gM 34 33, gN 34 false 35 6, ⟨some (34, false), .len 36 true (.s 35)⟩, ⟨some (34, false), .bin 37 .gtr false (.s 36) (gI 1)⟩, gN 34 false 38 37, gN 38 true 39 6, ⟨some (38, true), .bidx 40 (.s 39) (gI 1)⟩, ⟨some (38, true), .bin 41 .neq false (.s 40) (.k (.int .u8 32))⟩, ⟨some (34, false), .pick 42 (.s 38) (.s 41) (.k (.bool false))⟩, ⟨gO, .pick 43 (.s 34) (.k (.bool true)) (.s 42)⟩]) (.cond (.s 43) (.seq (gQ [⟨gO, .mov 2 (gS ⟨#[]⟩)⟩, ⟨gO, .mov 3 (gS ⟨#[]⟩)⟩, ⟨gO, .mov 4 (.k (.bool false))⟩]) .ret) .skip)) (.seq (gQ [gM 44 5, gM 45 6, ⟨gO, .sub 46 true 0 (.s 45) (some (gI 1)) none⟩, ⟨gO, .call (some 47) (.k (.fn 86 [])) [.s 46, gS ⟨#[32]⟩]⟩, gM 2 44, gM 3 47, ⟨gO, .mov 4 (.k (.bool true))⟩]) .ret))) .skip)) (.seq (gQ [gM 48 0, ⟨gO, .call (some 49) (.k (.fn 95 [])) [.s 48, gS ⟨#[58, 32]⟩]⟩, gM 8 49]) (.seq (.seq (gQ [gM 50 8, gU 51 .lss 50 0]) (.cond (.s 51) (.seq (.seq (gQ [gM 52 0, ⟨gO, .call (some 53) (.k (.fn 135 [])) [.s 52, gS ⟨#[58]⟩]⟩, ⟨gO, .un 54 .not (.s 53)⟩]) (.cond (.s 54) (.seq (gQ [⟨gO, .mov 2 (gS ⟨#[]⟩)⟩, ⟨gO, .mov 3 (gS ⟨#[]⟩)⟩, ⟨gO, .mov 4 (.k (.bool false))⟩]) .ret) .skip)) (.reg [gM 55 0, gH 56 true 55, gU 57 .sub 56 1, gM 8 57])) .skip)) (.seq (gQ [gM 58 0, gM 59 8, ⟨gO, .sub 60 true 0 (.s 58) none (some (.s 59))⟩, ⟨gO, .call (some 61) (.k (.fn 84 [])) [.s 60, gS ⟨#[32]⟩]⟩, gM 2 61]) (.seq (.seq (gQ [gM 62 2, ⟨gO, gB 63 .eql (.s 62) (gS ⟨#[]⟩)⟩, gM 64 63, gN 64 false 65 2, ⟨some (64, false), .call (some 66) (.k (.fn 136 [])) [.s 65]⟩, ⟨gO, .pick 67 (.s 64) (.k (.bool true)) (.s 66)⟩]) (.cond (.s 67) (.seq (gQ [⟨gO, .mov 2 (gS ⟨#[]⟩)⟩, ⟨gO, .mov 3 (gS ⟨#[]⟩)⟩, ⟨gO, .mov 4 (.k (.bool false))⟩]) .ret) .skip)) (.seq (gQ [gM 68 2, gM 69 0, gM 70 8, gU 71 .add 70 1, ⟨gO, .sub 72 true 0 (.s 69) (some (.s 71)) none⟩, ⟨gO, .call (some 73) (.k (.fn 86 [])) [.s 72, gS ⟨#[32]⟩]⟩, gM 2 68, gM 3 73, ⟨gO, .mov 4 (.k (.bool true))⟩]) .ret))))))
def a_yaml_split : AFn := ⟨1, 74, b_yaml_split, [.tmp 2, .tmp 3, .tmp 4]⟩
theorem a_yaml_split_ok : fnAF Tryz.prog [2000049, 2000138, 2000089, 2000090, 2000048, 2000091, 2000046] Tryz.f87 = some a_yaml_split := by kernel_rfl
theorem a_yaml_split_cb : callable Tryz.prog 87 = true := by kernel_rfl
def b_yaml_one : ACode :=
 .seq (gQ [⟨gO, .alloc 4 gZ⟩, ⟨gO, .mov 5 (gS ⟨#[]⟩)⟩, gJ 6 0]) (.seq (gQ [gM 14 0, ⟨gO, .call (some 15) (.k (.fn 86 [])) [.s 14, gS ⟨#[32]⟩]⟩, gM 0 15]) (.seq (.block 0 (.seq (gQ [gM 17 0, ⟨gO, .call (some 18) (.k (.fn 134 [])) [.s 17, gS ⟨#[91]⟩]⟩, gM 16 18]) (.cond (.s 16) (.seq (gQ [gM 19 0, ⟨gO, .sub 20 true 0 (.s 19) (some (gI 1)) none⟩, gC 21 178 [.s 20], gX 22 0 21, gX 23 1 21, gX 24 2 21, gT 6 4 22, gM 5 23, gM 6 24]) .ret) (.seq (gQ [gM 26 0, ⟨gO, .call (some 27) (.k (.fn 134 [])) [.s 26, gS ⟨#[123]⟩]⟩, gM 25 27]) (.cond (.s 25) (.seq (gQ [gM 28 0, ⟨gO, .sub 29 true 0 (.s 28) (some (gI 1)) none⟩, gC 30 179 [.s 29], gX 31 0 30, gX 32 1 30, gX 33 2 30, gT 6 4 31, gM 5 32, gM 6 33]) .ret) (.seq (gQ [gM 35 0, ⟨gO, gB 36 .neq (.s 35) (gS ⟨#[]⟩)⟩, gM 37 36, gN 37 true 38 0, ⟨some (37, true), .bidx 39 (.s 38) (gI 0)⟩, ⟨some (37, true), .bin 40 .eql false (.s 39) (.k (.int .u8 34))⟩, gN 37 true 41 40, gN 41 false 42 0, ⟨some (41, false), .bidx 43 (.s 42) (gI 0)⟩, ⟨some (41, false), .bin 44 .eql false (.s 43) (.k (.int .u8 39))⟩, ⟨some (37, true), .pick 45 (.s 41) (.k (.bool true)) (.s 44)⟩, ⟨gO, .pick 46 (.s 37) (.s 45) (.k (.bool false))⟩, gM 34 46]) (.cond (.s 34) (.seq (gQ [gM 48 0, gC 49 130 [.s 48], gM 47 49, gX 50 0 47, gX 51 1 47, gX 52 2 47, gM 7 50, gM 8 51, gM 9 52]) (.seq (gQ [gM 53 7, gC 54 40 [.s 53], gM 55 8, ⟨gO, .call (some 56) (.k (.fn 86 [])) [.s 55, gS ⟨#[32]⟩]⟩, gM 57 9, gT 6 4 54, gM 5 56, gM 6 57]) .ret)) .skip))))))) (.seq (gQ [gM 58 0, gH 59 true 58, gM 10 59]) (.seq (.seq (gQ [gM 60 1, ⟨gO, gB 61 .neq (.s 60) (gS ⟨#[]⟩)⟩]) (.cond (.s 61) (.seq (gQ [gJ 10 0]) (.block 1 (.loop (.seq (.seq (gQ [gM 62 10, gM 63 0, gH 64 true 63, gV 65 .lss 62 64, gM 66 65, gN 66 true 67 1, gN 66 true 68 0, gN 66 true 69 10, ⟨some (66, true), .bidx 70 (.s 68) (.s 69)⟩, ⟨some (66, true), .call (some 71) (.k (.fn 94 [])) [.s 67, .s 70]⟩, ⟨some (66, true), .bin 72 .lss false (.s 71) (gI 0)⟩, ⟨gO, .pick 73 (.s 66) (.s 72) (.k (.bool false))⟩]) (.cond (.s 73) .skip (.exit 1))) (.block 2 (.reg [gM 74 10, gU 75 .add 74 1, gM 10 75])))))) .skip)) (.seq (gQ [gM 76 0, gM 77 10, ⟨gO, .sub 78 true 0 (.s 76) none (some (.s 77))⟩, ⟨gO, .call (some 79) (.k (.fn 84 [])) [.s 78, gS ⟨#[32]⟩]⟩, gM 11 79]) (.seq (.seq (gQ [gM 80 11, ⟨gO, gB 81 .eql (.s 80) (gS ⟨#[]⟩)⟩, gM 82 81, gN 82 false 83 11, ⟨some (82, false), .call (some 84) (.k (.fn 136 [])) [.s 83]⟩, ⟨gO, .pick 85 (.s 82) (.k (.bool true)) (.s 84)⟩, gM 86 85, gN 86 false 87 11, ⟨some (86, false), .call (some 88) (.k (.fn 52 [])) [.s 87, gS ⟨#[58, 32]⟩]⟩, ⟨gO, .pick 89 (.s 86) (.k (.bool true)) (.s 88)⟩, gM 90 89, gN 90 false 91 11, ⟨some (90, false), .call (some 92) (.k (.fn 135 [])) [.s 91, gS ⟨#[58]⟩]⟩, ⟨gO, .pick 93 (.s 90) (.k (.bool true)) (.s 92)⟩]) (.cond (.s 93) (.seq (gQ [⟨gO, .build 94 gZ []⟩, gT 6 4 94, ⟨gO, .mov 5 (gS ⟨#[]⟩)⟩, gJ 6 10]) .ret) .skip)) (.seq (gQ [gM 96 11, gC 97 180 [.s 96], gM 95 97, gX 98 0 95, gX 99 1 95, ⟨gO, .alloc 12 gZ⟩, gT 6 12 98, gM 13 99]) (.seq (gQ [gA 100 6 12, gM 101 0, gM 102 10, ⟨gO, .sub 103 true 0 (.s 101) (some (.s 102)) none⟩, gM 104 13, gT 6 4 100, gM 5 103, gM 6 104]) .ret))))))))
def a_yaml_one : AFn := ⟨2, 105, b_yaml_one, [.cell 4 6 true, .tmp 5, .tmp 6]⟩
theorem a_yaml_one_ok : fnAF Tryz.prog [2000049, 2000138, 2000089, 2000090, 2000048, 2000091, 2000046] Tryz.f139 = some a_yaml_one := by kernel_rfl
theorem a_yaml_one_cb : callable Tryz.prog 139 = true := by kernel_rfl
def b_yaml_flow : ACode :=
 .seq (gQ [⟨gO, .alloc 2 gZ⟩, ⟨gO, .mov 3 (gS ⟨#[]⟩)⟩, gJ 4 0]) (.seq (gQ [⟨gO, .call (some 9) (.k (.fn 137 [])) [.k (.lst .nil 6 [])]⟩, ⟨gO, .alloc 5 gZ⟩, gT 6 5 9]) (.seq (gQ [gM 10 0, ⟨gO, .call (some 11) (.k (.fn 86 [])) [.s 10, gS ⟨#[32]⟩]⟩, gM 0 11]) (.seq (.seq (gQ [gM 12 0, ⟨gO, .call (some 13) (.k (.fn 134 [])) [.s 12, gS ⟨#[93]⟩]⟩]) (.cond (.s 13) (.seq (gQ [gA 14 6 5, gM 15 0, ⟨gO, .sub 16 true 0 (.s 15) (some (gI 1)) none⟩, ⟨gO, .call (some 17) (.k (.fn 86 [])) [.s 16, gS ⟨#[32]⟩]⟩, gT 6 2 14, gM 3 17, gJ 4 0]) .ret) .skip)) (.block 0 (.loop (.block 1 (.seq (gQ [gM 19 0, ⟨gO, .call (some 20) (.k (.fn 139 [])) [.s 19, gS ⟨#[44, 93]⟩]⟩, gM 18 20, gX 21 0 18, gX 22 1 18, gX 23 2 18, ⟨gO, .alloc 6 gZ⟩, gT 6 6 21, gM 7 22, gM 8 23]) (.seq (.seq (gQ [gM 24 8, gU 25 .neq 24 0]) (.cond (.s 25) (.seq (gQ [⟨gO, .build 26 gZ []⟩, gM 27 8, gT 6 2 26, ⟨gO, .mov 3 (gS ⟨#[]⟩)⟩, gM 4 27]) .ret) .skip)) (.seq (gQ [gF 28 4 5, gL 29 28, gA 30 6 6, ⟨gO, .bsl 31 1 6 gZ [(0, 6, .s 30)]⟩, ⟨gO, .app 32 6 88 (.s 29) (.s 31)⟩, gF 33 4 5, gT 1 33 32]) (.seq (.block 2 (.seq (gQ [gM 35 7, ⟨gO, .call (some 36) (.k (.fn 134 [])) [.s 35, gS ⟨#[93]⟩]⟩, gM 34 36]) (.cond (.s 34) (.seq (gQ [gA 37 6 5, gM 38 7, ⟨gO, .sub 39 true 0 (.s 38) (some (gI 1)) none⟩, ⟨gO, .call (some 40) (.k (.fn 86 [])) [.s 39, gS ⟨#[32]⟩]⟩, gT 6 2 37, gM 3 40, gJ 4 0]) .ret) (.seq (gQ [gM 42 7, ⟨gO, .call (some 43) (.k (.fn 134 [])) [.s 42, gS ⟨#[44]⟩]⟩, ⟨gO, .un 44 .not (.s 43)⟩, gM 41 44]) (.cond (.s 41) (.seq (gQ [⟨gO, .build 45 gZ []⟩, gT 6 2 45, ⟨gO, .mov 3 (gS ⟨#[]⟩)⟩, gJ 4 10]) .ret) .skip))))) (.reg [gM 46 7, ⟨gO, .sub 47 true 0 (.s 46) (some (gI 1)) none⟩, gM 0 47])))))))))))
def a_yaml_flow : AFn := ⟨1, 48, b_yaml_flow, [.cell 2 6 true, .tmp 3, .tmp 4]⟩
theorem a_yaml_flow_ok : fnAF Tryz.prog [2000049, 2000138, 2000089, 2000090, 2000048, 2000091, 2000046] Tryz.f178 = some a_yaml_flow := by kernel_rfl
theorem a_yaml_flow_cb : callable Tryz.prog 178 = true := by kernel_rfl
def b_yaml_braces : ACode :=
 .seq (gQ [⟨gO, .alloc 2 gZ⟩, ⟨gO, .mov 3 (gS ⟨#[]⟩)⟩, gJ 4 0]) (.seq (gQ [⟨gO, .call (some 15) (.k (.fn 35 [])) [.k (.lst .nil 7 [])]⟩, ⟨gO, .alloc 5 gZ⟩, gT 6 5 15]) (.seq (gQ [gM 16 0, ⟨gO, .call (some 17) (.k (.fn 86 [])) [.s 16, gS ⟨#[32]⟩]⟩, gM 0 17]) (.seq (.seq (gQ [gM 18 0, ⟨gO, .call (some 19) (.k (.fn 134 [])) [.s 18, gS ⟨#[125]⟩]⟩]) (.cond (.s 19) (.seq (gQ [gA 20 6 5, gM 21 0, ⟨gO, .sub 22 true 0 (.s 21) (some (gI 1)) none⟩, ⟨gO, .call (some 23) (.k (.fn 86 [])) [.s 22, gS ⟨#[32]⟩]⟩, gT 6 2 20, gM 3 23, gJ 4 0]) .ret) .skip)) (.block 0 (.loop (.block 1 (.seq (gQ [gM 24 0, ⟨gO, .call (some 25) (.k (.fn 86 [])) [.s 24, gS ⟨#[32]⟩]⟩, gM 0 25]) (.seq (gQ [gM 27 0, ⟨gO, .call (some 28) (.k (.fn 206 [])) [.s 27, gS ⟨#[58]⟩]⟩, gM 26 28, gX 29 0 26, gX 30 1 26, gX 31 2 26, gM 6 29, gM 7 30, gM 8 31]) (.seq (gQ [gM 32 6, ⟨gO, .call (some 33) (.k (.fn 84 [])) [.s 32, gS ⟨#[32]⟩]⟩, gM 6 33]) (.seq (.seq (gQ [gM 34 0, ⟨gO, gB 35 .neq (.s 34) (gS ⟨#[]⟩)⟩, gM 36 35, gN 36 true 37 0, ⟨some (36, true), .bidx 38 (.s 37) (gI 0)⟩, ⟨some (36, true), .bin 39 .eql false (.s 38) (.k (.int .u8 34))⟩, gN 36 true 40 39, gN 40 false 41 0, ⟨some (40, false), .bidx 42 (.s 41) (gI 0)⟩, ⟨some (40, false), .bin 43 .eql false (.s 42) (.k (.int .u8 39))⟩, ⟨some (36, true), .pick 44 (.s 40) (.k (.bool true)) (.s 43)⟩, ⟨gO, .pick 45 (.s 36) (.s 44) (.k (.bool false))⟩]) (.cond (.s 45) (.seq (gQ [gJ 9 0]) (.seq (.seq (gQ [gM 47 0, gC 48 130 [.s 47], gM 46 48, gX 49 0 46, gX 50 1 46, gX 51 2 46, gM 6 49, gM 7 50, gM 9 51]) (.seq (gQ [gM 52 9, gU 53 .neq 52 0]) (.cond (.s 53) (.seq (gQ [⟨gO, .build 54 gZ []⟩, gM 55 9, gT 6 2 54, ⟨gO, .mov 3 (gS ⟨#[]⟩)⟩, gM 4 55]) .ret) .skip))) (.reg [gM 57 7, ⟨gO, .call (some 58) (.k (.fn 207 [])) [.s 57, gS ⟨#[58]⟩]⟩, gM 56 58, gX 59 0 56, gX 60 1 56, gM 7 59, gM 8 60]))) (.seq (gQ [gM 61 6, ⟨gO, gB 62 .eql (.s 61) (gS ⟨#[]⟩)⟩, gM 63 62, gN 63 false 64 6, ⟨some (63, false), .call (some 65) (.k (.fn 136 [])) [.s 64]⟩, ⟨gO, .pick 66 (.s 63) (.k (.bool true)) (.s 65)⟩, gM 67 66, gN 67 false 68 6, ⟨some (67, false), .call (some 69) (.k (.fn 52 [])) [.s 68, gS ⟨#[44]⟩]⟩, ⟨gO, .pick 70 (.s 67) (.k (.bool true)) (.s 69)⟩, gM 71 70, gN 71 false 72 6, ⟨some (71, false), .call (some 73) (.k (.fn 52 [])) [.s 72, gS ⟨#[93]⟩]⟩, ⟨gO, .pick 74 (.s 71) (.k (.bool true)) (.s 73)⟩, gM 75 74, gN 75 false 76 6, ⟨some (75, false), .call (some 77) (.k (.fn 52 [])) [.s 76, gS ⟨#[125]⟩]⟩, ⟨gO, .pick 78 (.s 75) (.k (.bool true)) (.s 77)⟩]) (.cond (.s 78) (.reg [⟨gO, .mov 8 (.k (.bool false))⟩]) .skip)))) (.seq (.seq (gQ [gM 79 8, ⟨gO, .un 80 .not (.s 79)⟩]) (.cond (.s 80) (.seq (gQ [⟨gO, .build 81 gZ []⟩, gT 6 2 81, ⟨gO, .mov 3 (gS ⟨#[]⟩)⟩, gJ 4 10]) .ret) .skip)) (.seq (.seq (gQ [gA 83 6 5, gM 84 6, gC 85 36 [.s 83, .s 84], gM 82 85, gX 86 0 82, gX 87 1 82, ⟨gO, .alloc 10 gZ⟩, gT 6 10 86, gM 11 87]) (.seq (gQ [gM 88 11]) (.cond (.s 88) (.seq (gQ [⟨gO, .build 89 gZ []⟩, gT 6 2 89, ⟨gO, .mov 3 (gS ⟨#[]⟩)⟩, gJ 4 13]) .ret) .skip))) (.seq (gQ [gM 91 7, ⟨gO, .call (some 92) (.k (.fn 139 [])) [.s 91, gS ⟨#[44, 125]⟩]⟩, gM 90 92, gX 93 0 90, gX 94 1 90, gX 95 2 90, ⟨gO, .alloc 12 gZ⟩, gT 6 12 93, gM 13 94, gM 14 95]) (.seq (.seq (gQ [gM 96 14, gU 97 .neq 96 0]) (.cond (.s 97) (.seq (gQ [⟨gO, .build 98 gZ []⟩, gM 99 14, gT 6 2 98, ⟨gO, .mov 3 (gS ⟨#[]⟩)⟩, gM 4 99]) .ret) .skip)) (.seq (gQ [gA 100 6 5, gM 101 6, gA 102 6 12, gC 103 39 [.s 100, .s 101, .s 102], gT 6 5 103]) (.seq (.block 2 (.seq (gQ [gM 105 13, ⟨gO, .call (some 106) (.k (.fn 134 [])) [.s 105, gS ⟨#[125]⟩]⟩, gM 104 106]) (.cond (.s 104) (.seq (gQ [gA 107 6 5, gM 108 13, ⟨gO, .sub 109 true 0 (.s 108) (some (gI 1)) none⟩, ⟨gO, .call (some 110) (.k (.fn 86 [])) [.s 109, gS ⟨#[32]⟩]⟩, gT 6 2 107, gM 3 110, gJ 4 0]) .ret) (.seq (gQ [gM 112 13, ⟨gO, .call (some 113) (.k (.fn 134 [])) [.s 112, gS ⟨#[44]⟩]⟩, ⟨gO, .un 114 .not (.s 113)⟩, gM 111 114]) (.cond (.s 111) (.seq (gQ [⟨gO, .build 115 gZ []⟩, gT 6 2 115, ⟨gO, .mov 3 (gS ⟨#[]⟩)⟩, gJ 4 10]) .ret) .skip))))) (.reg [gM 116 13, ⟨gO, .sub 117 true 0 (.s 116) (some (gI 1)) none⟩, gM 0 117])))))))))))))))))
def a_yaml_braces : AFn := ⟨1, 118, b_yaml_braces, [.cell 2 6 true, .tmp 3, .tmp 4]⟩
theorem a_yaml_braces_ok : fnAF Tryz.prog [2000049, 2000138, 2000089, 2000090, 2000048, 2000091, 2000046] Tryz.f179 = some a_yaml_braces := by kernel_rfl
theorem a_yaml_braces_cb : callable Tryz.prog 179 = true := by kernel_rfl
def b_yaml_lines : ACode :=
 .seq (gQ [⟨gO, .mov 2 (.k (.lst .nil 2 []))⟩, gJ 3 0]) (.seq (gQ [⟨gO, .mov 4 (.k (.lst .nil 2 []))⟩]) (.seq (.seq (gQ [gM 8 0, ⟨gO, .call (some 9) (.k (.fn 75 [])) [.s 8, gS ⟨#[10]⟩]⟩, gH 10 false 9, gJ 11 0]) (.block 0 (.loop (.seq (gQ [gV 12 .lss 11 10]) (.seq (.cond (.s 12) .skip (.exit 0)) (.seq (.block 1 (.seq (gQ [gE 13 1 9 11, gL 14 13, gM 6 14]) (.seq (gQ [gM 15 6, gC 16 85 [.s 15], ⟨gO, .call (some 17) (.k (.fn 84 [])) [.s 16, gS ⟨#[32]⟩]⟩, gM 6 17]) (.seq (gQ [gM 18 6, ⟨gO, .call (some 19) (.k (.fn 86 [])) [.s 18, gS ⟨#[32]⟩]⟩, gM 7 19]) (.seq (.seq (gQ [gM 20 7, ⟨gO, gB 21 .eql (.s 20) (gS ⟨#[]⟩)⟩]) (.cond (.s 21) (.exit 1) .skip)) (.seq (.seq (gQ [gM 22 7, ⟨gO, .bidx 23 (.s 22) (gI 0)⟩, ⟨gO, gB 24 .eql (.s 23) (.k (.int .u8 9))⟩]) (.cond (.s 24) (.seq (gQ [⟨gO, .mov 2 (.k (.lst .nil 2 []))⟩, gJ 3 12]) .ret) .skip)) (.reg [gM 25 4, gM 26 6, gH 27 true 26, gM 28 7, gH 29 true 28, gV 30 .sub 27 29, gM 31 7, ⟨gO, .build 32 [.int .i64 0, .str ⟨#[]⟩] [(0, 1, .s 30), (1, 1, .s 31)]⟩, ⟨gO, .bsl 33 1 2 [.int .i64 0, .str ⟨#[]⟩] [(0, 2, .s 32)]⟩, ⟨gO, .app 34 2 24 (.s 25) (.s 33)⟩, gM 4 34]))))))) (.reg [gU 35 .add 11 1, gM 11 35]))))))) (.seq (gQ [gM 36 4, gM 2 36, gJ 3 0]) .ret)))
def a_yaml_lines : AFn := ⟨1, 37, b_yaml_lines, [.tmp 2, .tmp 3]⟩
theorem a_yaml_lines_ok : fnAF Tryz.prog [2000049, 2000138, 2000089, 2000090, 2000048, 2000091, 2000046] Tryz.f46 = some a_yaml_lines := by kernel_rfl
theorem a_yaml_lines_cb : callable Tryz.prog 46 = true := by kernel_rfl
def b_yaml_reader_fail : ACode :=
 .seq (gQ [⟨gO, .alloc 4 gZ⟩]) (.seq (.seq (gQ [gM 5 0, gF 6 0 5, gF 7 2 6, gL 8 7, gU 9 .eql 8 0]) (.cond (.s 9) (.reg [gM 10 0, gM 11 1, gF 12 0 10, gF 13 2 12, gT 1 13 11]) .skip)) (.seq (gQ [gM 14 0, gM 15 0, gF 16 0 15, gF 17 0 16, gL 18 17, gH 19 false 18, gF 20 0 14, gF 21 1 20, gT 1 21 19]) (.seq (gQ [⟨gO, .build 22 gZ []⟩, gT 6 4 22]) .ret)))
def a_yaml_reader_fail : AFn := ⟨2, 23, b_yaml_reader_fail, [.cell 4 6 true]⟩
theorem a_yaml_reader_fail_ok : fnAF Tryz.prog [2000049, 2000138, 2000089, 2000090, 2000048, 2000091, 2000046] Tryz.f49 = some a_yaml_reader_fail := by kernel_rfl
theorem a_yaml_reader_fail_cb : callable Tryz.prog 49 = true := by kernel_rfl
def b_yaml_reader_below : ACode :=
 .seq (gQ [⟨gO, .alloc 4 gZ⟩]) (.seq (.seq (gQ [gM 5 0, gF 6 0 5, gF 7 1 6, gL 8 7, gM 9 0, gF 10 0 9, gF 11 0 10, gL 12 11, gH 13 false 12, gV 14 .lss 8 13, gM 15 14, gN 15 true 16 0, ⟨some (15, true), .off 17 0 (.s 16)⟩, ⟨some (15, true), .off 18 0 (.s 17)⟩, ⟨some (15, true), .ld 19 1 false (.s 18)⟩, gN 15 true 20 0, ⟨some (15, true), .off 21 0 (.s 20)⟩, ⟨some (15, true), .off 22 1 (.s 21)⟩, ⟨some (15, true), .ld 23 1 false (.s 22)⟩, ⟨some (15, true), .idx 24 2 (.s 19) (.s 23)⟩, ⟨some (15, true), .off 25 0 (.s 24)⟩, ⟨some (15, true), .ld 26 1 false (.s 25)⟩, gN 15 true 27 1, ⟨some (15, true), .bin 28 .gtr false (.s 26) (.s 27)⟩, ⟨gO, .pick 29 (.s 15) (.s 28) (.k (.bool false))⟩]) (.cond (.s 29) (.seq (gQ [gM 30 0, gM 31 0, gF 32 0 31, gF 33 0 32, gL 34 33, gM 35 0, gF 36 0 35, gF 37 1 36, gL 38 37, gE 39 2 34 38, gF 40 0 39, gL 41 40, ⟨gO, .calls (some 42) (.k (.fn 48 [])) [.s 30, .s 41]⟩, gT 6 4 42]) .ret) .skip)) (.seq (gQ [gC 43 47 [], gT 6 4 43]) .ret))
def a_yaml_reader_below : AFn := ⟨2, 44, b_yaml_reader_below, [.cell 4 6 true]⟩
theorem a_yaml_reader_below_ok : fnAF Tryz.prog [2000049, 2000138, 2000089, 2000090, 2000048, 2000091, 2000046] Tryz.f138 = some a_yaml_reader_below := by kernel_rfl
theorem a_yaml_reader_below_cb : callable Tryz.prog 138 = true := by kernel_rfl
def b_yaml_reader_list : ACode :=
 .seq (gQ [⟨gO, .alloc 4 gZ⟩]) (.seq (gQ [⟨gO, .call (some 8) (.k (.fn 137 [])) [.k (.lst .nil 6 [])]⟩, ⟨gO, .alloc 5 gZ⟩, gT 6 5 8]) (.seq (.block 0 (.loop (.seq (.seq (gQ [gM 9 0, gF 10 0 9, gF 11 1 10, gL 12 11, gM 13 0, gF 14 0 13, gF 15 0 14, gL 16 15, gH 17 false 16, gV 18 .lss 12 17, gM 19 18, gN 19 true 20 0, ⟨some (19, true), .off 21 0 (.s 20)⟩, ⟨some (19, true), .off 22 0 (.s 21)⟩, ⟨some (19, true), .ld 23 1 false (.s 22)⟩, gN 19 true 24 0, ⟨some (19, true), .off 25 0 (.s 24)⟩, ⟨some (19, true), .off 26 1 (.s 25)⟩, ⟨some (19, true), .ld 27 1 false (.s 26)⟩, ⟨some (19, true), .idx 28 2 (.s 23) (.s 27)⟩, ⟨some (19, true), .off 29 0 (.s 28)⟩, ⟨some (19, true), .ld 30 1 false (.s 29)⟩, gN 19 true 31 1, ⟨some (19, true), .bin 32 .eql false (.s 30) (.s 31)⟩, ⟨gO, .pick 33 (.s 19) (.s 32) (.k (.bool false))⟩, gM 34 33, gN 34 true 35 0, ⟨some (34, true), .off 36 0 (.s 35)⟩, ⟨some (34, true), .off 37 0 (.s 36)⟩, ⟨some (34, true), .ld 38 1 false (.s 37)⟩, gN 34 true 39 0, ⟨some (34, true), .off 40 0 (.s 39)⟩, ⟨some (34, true), .off 41 1 (.s 40)⟩, ⟨some (34, true), .ld 42 1 false (.s 41)⟩, ⟨some (34, true), .idx 43 2 (.s 38) (.s 42)⟩, ⟨some (34, true), .off 44 1 (.s 43)⟩, ⟨some (34, true), .ld 45 1 false (.s 44)⟩, ⟨some (34, true), .call (some 46) (.k (.fn 88 [])) [.s 45]⟩, ⟨gO, .pick 47 (.s 34) (.s 46) (.k (.bool false))⟩]) (.cond (.s 47) .skip (.exit 0))) (.block 1 (.seq (gQ [gM 48 0, gF 49 0 48, gF 50 0 49, gL 51 50, gM 52 0, gF 53 0 52, gF 54 1 53, gL 55 54, gE 56 2 51 55, gF 57 1 56, gL 58 57, ⟨gO, .sub 59 true 0 (.s 58) (some (gI 1)) none⟩, ⟨gO, .call (some 60) (.k (.fn 86 [])) [.s 59, gS ⟨#[32]⟩]⟩, gM 6 60]) (.seq (.seq (gQ [gM 61 6, ⟨gO, gB 62 .eql (.s 61) (gS ⟨#[]⟩)⟩]) (.cond (.s 62) (.seq (gQ [gM 63 0, gF 64 0 63, gF 65 1 64, gL 66 65, gU 67 .add 66 1, gF 68 0 63, gF 69 1 68, gT 1 69 67]) (.seq (.rega [gF 70 4 5, gL 71 70, gM 72 0, gM 73 1, ⟨gO, .calls (some 74) (.k (.fn 138 [])) [.s 72, .s 73]⟩, ⟨gO, .bsl 75 1 6 gZ [(0, 6, .s 74)]⟩, ⟨gO, .app 76 6 88 (.s 71) (.s 75)⟩, gF 77 4 5, gT 1 77 76] [[], [0], [], [], [2, 3], [4], [1, 5, 4], [0, 1, 2, 3, 4, 5, 6], [7, 6, 6, 0, 1, 2, 3, 4, 5, 6]]) (.exit 1))) .skip)) (.seq (gQ [gM 78 1, gM 79 0, gF 80 0 79, gF 81 0 80, gL 82 81, gM 83 0, gF 84 0 83, gF 85 1 84, gL 86 85, gE 87 2 82 86, gF 88 1 87, gL 89 88, gH 90 true 89, gV 91 .add 78 90, gM 92 6, gH 93 true 92, gV 94 .sub 91 93, gM 7 94]) (.seq (gQ [gM 95 0, gF 96 0 95, gF 97 0 96, gL 98 97, gM 99 0, gF 100 0 99, gF 101 1 100, gL 102 101, gM 103 7, gM 104 6, ⟨gO, .build 105 [.int .i64 0, .str ⟨#[]⟩] [(0, 1, .s 103), (1, 1, .s 104)]⟩, gE 106 2 98 102, gT 2 106 105]) (.rega [gF 107 4 5, gL 108 107, gM 109 0, gM 110 7, ⟨gO, .calls (some 111) (.k (.fn 48 [])) [.s 109, .s 110]⟩, ⟨gO, .bsl 112 1 6 gZ [(0, 6, .s 111)]⟩, ⟨gO, .app 113 6 88 (.s 108) (.s 112)⟩, gF 114 4 5, gT 1 114 113] [[], [0], [], [], [2, 3], [4], [1, 5, 4], [0, 1, 2, 3, 4, 5, 6], [7, 6, 6, 0, 1, 2, 3, 4, 5, 6]]))))))))) (.seq (gQ [gA 115 6 5, gT 6 4 115]) .ret)))
def a_yaml_reader_list : AFn := ⟨2, 116, b_yaml_reader_list, [.cell 4 6 true]⟩
theorem a_yaml_reader_list_ok : fnAF Tryz.prog [2000049, 2000138, 2000089, 2000090, 2000048, 2000091, 2000046] Tryz.f89 = some a_yaml_reader_list := by kernel_rfl
theorem a_yaml_reader_list_cb : callable Tryz.prog 89 = true := by kernel_rfl
def b_yaml_reader_pairs : ACode :=
 .seq (gQ [⟨gO, .alloc 4 gZ⟩]) (.seq (gQ [⟨gO, .call (some 12) (.k (.fn 35 [])) [.k (.lst .nil 7 [])]⟩, ⟨gO, .alloc 5 gZ⟩, gT 6 5 12]) (.seq (.block 0 (.loop (.seq (.seq (gQ [gM 13 0, gF 14 0 13, gF 15 1 14, gL 16 15, gM 17 0, gF 18 0 17, gF 19 0 18, gL 20 19, gH 21 false 20, gV 22 .lss 16 21, gM 23 22, gN 23 true 24 0, ⟨some (23, true), .off 25 0 (.s 24)⟩, ⟨some (23, true), .off 26 0 (.s 25)⟩, ⟨some (23, true), .ld 27 1 false (.s 26)⟩, gN 23 true 28 0, ⟨some (23, true), .off 29 0 (.s 28)⟩, ⟨some (23, true), .off 30 1 (.s 29)⟩, ⟨some (23, true), .ld 31 1 false (.s 30)⟩, ⟨some (23, true), .idx 32 2 (.s 27) (.s 31)⟩, ⟨some (23, true), .off 33 0 (.s 32)⟩, ⟨some (23, true), .ld 34 1 false (.s 33)⟩, gN 23 true 35 1, ⟨some (23, true), .bin 36 .eql false (.s 34) (.s 35)⟩, ⟨gO, .pick 37 (.s 23) (.s 36) (.k (.bool false))⟩]) (.cond (.s 37) .skip (.exit 0))) (.block 1 (.seq (gQ [gM 39 0, gF 40 0 39, gF 41 0 40, gL 42 41, gM 43 0, gF 44 0 43, gF 45 1 44, gL 46 45, gE 47 2 42 46, gF 48 1 47, gL 49 48, gC 50 87 [.s 49], gM 38 50, gX 51 0 38, gX 52 1 38, gX 53 2 38, gM 6 51, gM 7 52, gM 8 53]) (.seq (.seq (gQ [gM 54 0, gF 55 0 54, gF 56 0 55, gL 57 56, gM 58 0, gF 59 0 58, gF 60 1 59, gL 61 60, gE 62 2 57 61, gF 63 1 62, gL 64 63, gC 65 88 [.s 64], gM 66 65, gN 66 false 67 8, ⟨some (66, false), .un 68 .not (.s 67)⟩, ⟨gO, .pick 69 (.s 66) (.k (.bool true)) (.s 68)⟩]) (.cond (.s 69) (.seq (gQ [gM 70 0, ⟨gO, .calls (some 71) (.k (.fn 49 [])) [.s 70, gI 10]⟩, gT 6 4 71]) .ret) .skip)) (.seq (.seq (gQ [gA 73 6 5, gM 74 6, gC 75 36 [.s 73, .s 74], gM 72 75, gX 76 0 72, gX 77 1 72, ⟨gO, .alloc 9 gZ⟩, gT 6 9 76, gM 10 77]) (.seq (gQ [gM 78 10]) (.cond (.s 78) (.seq (gQ [gM 79 0, ⟨gO, .calls (some 80) (.k (.fn 49 [])) [.s 79, gI 13]⟩, gT 6 4 80]) .ret) .skip))) (.seq (gQ [gM 81 0, gF 82 0 81, gF 83 1 82, gL 84 83, gU 85 .add 84 1, gF 86 0 81, gF 87 1 86, gT 1 87 85]) (.seq (gQ [⟨gO, .build 88 gZ []⟩, ⟨gO, .alloc 11 gZ⟩, gT 6 11 88]) (.seq (.seq (gQ [gM 89 7, ⟨gO, gB 90 .eql (.s 89) (gS ⟨#[]⟩)⟩]) (.cond (.s 90) (.reg [gM 91 0, gM 92 1, ⟨gO, .calls (some 93) (.k (.fn 138 [])) [.s 91, .s 92]⟩, gT 6 11 93]) (.reg [gM 94 0, gM 95 7, ⟨gO, .calls (some 96) (.k (.fn 91 [])) [.s 94, .s 95]⟩, gT 6 11 96]))) (.reg [gA 97 6 5, gM 98 6, gA 99 6 11, gC 100 39 [.s 97, .s 98, .s 99], gT 6 5 100]))))))))))) (.seq (gQ [gA 101 6 5, gT 6 4 101]) .ret)))
def a_yaml_reader_pairs : AFn := ⟨2, 102, b_yaml_reader_pairs, [.cell 4 6 true]⟩
theorem a_yaml_reader_pairs_ok : fnAF Tryz.prog [2000049, 2000138, 2000089, 2000090, 2000048, 2000091, 2000046] Tryz.f90 = some a_yaml_reader_pairs := by kernel_rfl
theorem a_yaml_reader_pairs_cb : callable Tryz.prog 90 = true := by kernel_rfl
def b_yaml_reader_block : ACode :=
 .seq (gQ [⟨gO, .alloc 4 gZ⟩]) (.seq (gQ [gM 10 0, gF 11 0 10, gF 12 0 11, gL 13 12, gM 14 0, gF 15 0 14, gF 16 1 15, gL 17 16, gE 18 2 13 17, gF 19 1 18, gL 20 19, gM 5 20]) (.seq (gQ [⟨gO, .alloc 6 gZ⟩]) (.seq (.seq (gQ [gM 22 5, gC 23 87 [.s 22], gM 21 23, gX 24 0 21, gX 25 1 21, gX 26 2 21, gM 7 24, gM 8 25, gM 9 26]) (.block 0 (.seq (gQ [gM 38 5, gC 39 88 [.s 38], gM 37 39]) (.cond (.s 37) (.reg [gM 40 0, gM 41 1, ⟨gO, .calls (some 42) (.k (.fn 89 [])) [.s 40, .s 41]⟩, gT 6 6 42]) (.seq (gQ [gM 44 9, gM 43 44]) (.cond (.s 43) (.reg [gM 45 0, gM 46 1, ⟨gO, .calls (some 47) (.k (.fn 90 [])) [.s 45, .s 46]⟩, gT 6 6 47]) (.seq (gQ [gM 27 0, gF 28 0 27, gF 29 1 28, gL 30 29, gU 31 .add 30 1, gF 32 0 27, gF 33 1 32, gT 1 33 31]) (.reg [gM 34 0, gM 35 5, ⟨gO, .calls (some 36) (.k (.fn 91 [])) [.s 34, .s 35]⟩, gT 6 6 36])))))))) (.seq (.seq (gQ [gM 48 0, gF 49 0 48, gF 50 1 49, gL 51 50, gM 52 0, gF 53 0 52, gF 54 0 53, gL 55 54, gH 56 false 55, gV 57 .lss 51 56, gM 58 57, gN 58 true 59 0, ⟨some (58, true), .off 60 0 (.s 59)⟩, ⟨some (58, true), .off 61 0 (.s 60)⟩, ⟨some (58, true), .ld 62 1 false (.s 61)⟩, gN 58 true 63 0, ⟨some (58, true), .off 64 0 (.s 63)⟩, ⟨some (58, true), .off 65 1 (.s 64)⟩, ⟨some (58, true), .ld 66 1 false (.s 65)⟩, ⟨some (58, true), .idx 67 2 (.s 62) (.s 66)⟩, ⟨some (58, true), .off 68 0 (.s 67)⟩, ⟨some (58, true), .ld 69 1 false (.s 68)⟩, gN 58 true 70 1, ⟨some (58, true), .bin 71 .gtr false (.s 69) (.s 70)⟩, ⟨gO, .pick 72 (.s 58) (.s 71) (.k (.bool false))⟩]) (.cond (.s 72) (.seq (gQ [gM 73 0, ⟨gO, .calls (some 74) (.k (.fn 49 [])) [.s 73, gI 12]⟩, gT 6 4 74]) .ret) .skip)) (.seq (gQ [gA 75 6 6, gT 6 4 75]) .ret)))))
def a_yaml_reader_block : AFn := ⟨2, 76, b_yaml_reader_block, [.cell 4 6 true]⟩
theorem a_yaml_reader_block_ok : fnAF Tryz.prog [2000049, 2000138, 2000089, 2000090, 2000048, 2000091, 2000046] Tryz.f48 = some a_yaml_reader_block := by kernel_rfl
theorem a_yaml_reader_block_cb : callable Tryz.prog 48 = true := by kernel_rfl
def b_yaml_reader_inline : ACode :=
 .seq (gQ [⟨gO, .alloc 4 gZ⟩]) (.seq (gQ [gM 9 1, ⟨gO, .call (some 10) (.k (.fn 139 [])) [.s 9, gS ⟨#[]⟩]⟩, gM 8 10, gX 11 0 8, gX 12 1 8, gX 13 2 8, ⟨gO, .alloc 5 gZ⟩, gT 6 5 11, gM 6 12, gM 7 13]) (.seq (.seq (gQ [gM 14 7, gU 15 .eql 14 0, gM 16 15, gN 16 true 17 6, ⟨some (16, true), .bin 18 .neq false (.s 17) (gS ⟨#[]⟩)⟩, ⟨gO, .pick 19 (.s 16) (.s 18) (.k (.bool false))⟩]) (.cond (.s 19) (.reg [gJ 7 10]) .skip)) (.seq (.seq (gQ [gM 20 7, gU 21 .neq 20 0]) (.cond (.s 21) (.seq (gQ [gM 22 0, gM 23 7, ⟨gO, .calls (some 24) (.k (.fn 49 [])) [.s 22, .s 23]⟩, gT 6 4 24]) .ret) .skip)) (.seq (gQ [gA 25 6 5, gT 6 4 25]) .ret))))
def a_yaml_reader_inline : AFn := ⟨2, 26, b_yaml_reader_inline, [.cell 4 6 true]⟩
theorem a_yaml_reader_inline_ok : fnAF Tryz.prog [2000049, 2000138, 2000089, 2000090, 2000048, 2000091, 2000046] Tryz.f91 = some a_yaml_reader_inline := by kernel_rfl
theorem a_yaml_reader_inline_cb : callable Tryz.prog 91 = true := by kernel_rfl
def b_yaml_Parse : ACode :=
 .seq (gQ [⟨gO, .alloc 2 gZ⟩, gJ 3 0]) (.seq (.seq (gQ [gM 9 0, gH 10 true 9, gU 11 .gtr 10 65536]) (.cond (.s 11) (.seq (gQ [⟨gO, .build 12 gZ []⟩, gT 6 2 12, gJ 3 6]) .ret) .skip)) (.seq (gQ [gM 14 0, ⟨gO, .calls (some 15) (.k (.fn 46 [])) [.s 14]⟩, gM 13 15, gX 16 0 13, gX 17 1 13, gM 4 16, gM 5 17]) (.seq (.seq (gQ [gM 18 5, gU 19 .neq 18 0]) (.cond (.s 19) (.seq (gQ [⟨gO, .build 20 gZ []⟩, gM 21 5, gT 6 2 20, gM 3 21]) .ret) .skip)) (.seq (.seq (gQ [gM 22 4, gH 23 false 22, gU 24 .eql 23 0]) (.cond (.s 24) (.seq (gQ [gC 25 47 [], gT 6 2 25, gJ 3 0]) .ret) .skip)) (.seq (gQ [gM 26 4, ⟨gO, .build 27 [.lst .nil 2 [], .int .i64 0, .int .i64 0] [(0, 1, .s 26)]⟩, gP 28 27, gM 6 28]) (.seq (gQ [gM 29 6, gM 30 4, ⟨gO, .idx 31 2 (.s 30) (gI 0)⟩, gF 32 0 31, gL 33 32, ⟨gO, .calls (some 34) (.k (.fn 48 [])) [.s 29, .s 33]⟩, ⟨gO, .alloc 7 gZ⟩, gT 6 7 34]) (.seq (.seq (gQ [gM 35 6, gF 36 0 35, gF 37 2 36, gL 38 37, gU 39 .eql 38 0, gM 40 39, gN 40 true 41 6, ⟨some (40, true), .off 42 0 (.s 41)⟩, ⟨some (40, true), .off 43 1 (.s 42)⟩, ⟨some (40, true), .ld 44 1 false (.s 43)⟩, gN 40 true 45 4, ⟨some (40, true), .len 46 false (.s 45)⟩, ⟨some (40, true), .bin 47 .lss false (.s 44) (.s 46)⟩, ⟨gO, .pick 48 (.s 40) (.s 47) (.k (.bool false))⟩]) (.cond (.s 48) (.reg [gM 49 6, ⟨gO, .calls (some 50) (.k (.fn 49 [])) [.s 49, gI 10]⟩]) .skip)) (.seq (.seq (gQ [gM 51 6, gF 52 0 51, gF 53 2 52, gL 54 53, gU 55 .neq 54 0]) (.cond (.s 55) (.seq (.rega [⟨gO, .build 56 gZ []⟩, gM 57 6, gF 58 0 57, gF 59 2 58, gL 60 59, gT 6 2 56, gM 3 60] [[], [], [1], [2], [3], [0, 0], [4, 5, 0, 1, 2, 3, 4, 5]]) .ret) .skip)) (.seq (.seq (gQ [gA 61 6 7, gC 62 33 [.s 61], gM 8 62]) (.seq (gQ [gM 63 8, gU 64 .neq 63 0]) (.cond (.s 64) (.seq (gQ [⟨gO, .build 65 gZ []⟩, gM 66 8, gT 6 2 65, gM 3 66]) .ret) .skip))) (.seq (gQ [gA 67 6 7, gT 6 2 67, gJ 3 0]) .ret))))))))))
def a_yaml_Parse : AFn := ⟨1, 68, b_yaml_Parse, [.cell 2 6 true, .tmp 3]⟩
theorem a_yaml_Parse_ok : fnAF Tryz.prog [2000049, 2000138, 2000089, 2000090, 2000048, 2000091, 2000046] Tryz.f15 = some a_yaml_Parse := by kernel_rfl
theorem a_yaml_Parse_cb : callable Tryz.prog 15 = true := by kernel_rfl
end Go.Proofs.YtbfiopoefbbknaaGreatDoor
namespace Go.Proofs.YtbfiopoefbbknaaGreatDoor
open Go.RowKit
theorem toB_eta (s : ByteArray) : toB s.data.toList = s := rfl
theorem toB_list (l : Bs) : (toB l).data.toList = l := rfl
theorem toB_size (l : Bs) : (toB l).size = l.length := rfl
theorem toB_at {l : Bs} {k : Nat} {c : UInt8} (h : l[k]? = some c) : (toB l).data.getD k 0 = c := by
 have := (List.getElem?_eq_some_iff.1 h)
 obtain ⟨h1, h2⟩ := this
 rw [Array.getD, dif_pos (show k < (toB l).data.size from h1)]
 exact h2
theorem toB_ext (l : Bs) (a b : Nat) (h : b ≤ l.length) : (toB l).extract a b = toB ((l.take b).drop a) := by
 apply ByteArray.ext
 apply Array.toList_inj.1
 rw [ByteArray.data_extract]
 simp [toB, List.extract_eq_take_drop]
 rw [List.drop_take]
theorem toB_to (l : Bs) (b : Nat) (h : b ≤ l.length) : (toB l).extract 0 b = toB (l.take b) := by rw [toB_ext l 0 b h]; rfl
theorem toB_from (l : Bs) (a : Nat) : (toB l).extract a (toB l).size = toB (l.drop a) := by
 rw [toB_size, toB_ext l a _ (Nat.le_refl _), List.take_length]
theorem toB_inj {a b : Bs} : toB a = toB b ↔ a = b := ⟨fun h => by have := congrArg (fun x => x.data.toList) h; exact this, fun h => by rw [h]⟩
theorem AC.of2 {f : FuncId} {x y : ByteArray} {v : Value} {r : AV} (hcb : callable Tryz.prog f = true) (hr : ∀ σ, RelR σ v r) (h : ∀ w, GW w → Calls Tryz.prog f #[.string x, .string y] w fun e w' => e = .returned v ∧ w' = w) : AC Tryz.prog f [.str x, .str y] r := by
 refine ⟨hcb, fun σ w vs hh hrs hg => ?_⟩
 obtain ⟨v1, v2, rfl, h1, h2⟩ := two_args hrs
 have h1 : Rel1 σ v1 (.str x) := h1
 have h2 : Rel1 σ v2 (.str y) := h2
 cases h1; cases h2
 refine (h w hg).mono ?_
 rintro e w' ⟨rfl, rfl⟩
 exact ⟨σ, _, rfl, Ext.refl _ _, hh, Below.refl _ _, hr σ⟩
theorem tl_a (l : Bs) : AC Tryz.prog 86 [.str (toB l), .str ⟨#[32]⟩] (.str (toB (tl l))) := AC.of2 (by kernel_rfl) (fun _ => Rel1.str _) fun w _ => Tryz.strings_TrimLeft_one (toB l) 32 (by decide) w
theorem tr_a (l : Bs) (hl : l.length ≤ 1000000) : AC Tryz.prog 84 [.str (toB l), .str ⟨#[32]⟩] (.str (toB (tr l))) := AC.of2 (by kernel_rfl) (fun _ => Rel1.str _) fun w _ => Tryz.strings_TrimRight_one (toB l) 32 (by decide) w (by show l.length ≤ _; omega)
theorem suff_a (l p : Bs) (hl : l.length ≤ 1000000) : AC Tryz.prog 135 [.str (toB l), .str (toB p)] (.bool (Lib.hasSuffix l p)) := AC.of2 (by kernel_rfl) (fun _ => Rel1.bool _) fun w _ => Tryz.strings_HasSuffix (toB l) (toB p) w (by show l.length ≤ _; omega)
theorem index_a (l p : Bs) (hl : l.length ≤ 1000000) : AC Tryz.prog 95 [.str (toB l), .str (toB p)] (.int .i64 (Lib.index l p)) := AC.of2 (by kernel_rfl) (fun _ => Rel1.int _ _) fun w hg => by
 obtain ⟨m, hm⟩ := hg.num 0 (by simp [globZ])
 exact Tryz.strings_Index (toB l) (toB p) m w (by show l.length < _; omega) hm
theorem contains_a (l p : Bs) (hl : l.length ≤ 1000000) : AC Tryz.prog 52 [.str (toB l), .str (toB p)] (.bool (Lib.contains l p)) := AC.of2 (by kernel_rfl) (fun _ => Rel1.bool _) fun w hg => by
 obtain ⟨m, hm⟩ := hg.num 0 (by simp [globZ])
 exact Tryz.strings_Contains (toB l) (toB p) m w (by show l.length < _; omega) hm
theorem ixB_a (l : Bs) (c : UInt8) : AC Tryz.prog 94 [.str (toB l), .int .u8 c.toNat] (.int .i64 (Lib.indexByte l c)) := by
 have h := indexByte_a (toB l) c.toNat
 rw [show ((c.toNat : Int).toNat).toUInt8 = c by simp] at h
 exact h
theorem ix_mem (l : Bs) (c : UInt8) : decide (0 ≤ Lib.indexByte l c) = l.contains c := by
 rw [Bool.eq_iff_iff, decide_eq_true_eq, List.contains_iff_mem]
 rcases ixT_cases l c with ⟨h1, h2⟩ | ⟨i, h1, h2, h3, h4⟩
 ·rw [h1]; exact ⟨fun h => absurd h (by omega), fun h => absurd h h2⟩
 ·rw [h1]; exact ⟨fun _ => List.mem_of_getElem? h3, fun _ => by omega⟩
theorem has_toB (l p : Bs) : hasB (toB l) (toB p) = p.isPrefixOf l := by
 rw [Bool.eq_iff_iff, hasB, Bool.and_eq_true, decide_eq_true_eq, decide_eq_true_eq, List.isPrefixOf_iff_prefix, toB_size, toB_size]
 constructor
 ·rintro ⟨h1, h2⟩
  rw [toB_to l _ h1, toB_inj] at h2
  rw [← h2]
  exact List.take_prefix _ _
 ·intro h
  refine ⟨h.length_le, ?_⟩
  rw [toB_to l _ h.length_le, toB_inj]
  exact (List.prefix_iff_eq_take.1 h).symm
theorem has1_toB (l : Bs) (c : UInt8) : hasB (toB l) ⟨#[c]⟩ = (match l with | [] => false | d :: _ => d == c) := by
 rw [show (⟨#[c]⟩ : ByteArray) = toB [c] from rfl, has_toB]
 cases l with
 | nil => rfl
 | cons d l => simp [List.isPrefixOf, eq_comm (a := c), BEq.comm (a := c)]
theorem item_a (l : Bs) : AC Tryz.prog 88 [.str (toB l)] (.bool (isItem l)) := by
 have h := has_a (toB l) (toB [45, 32])
 rw [has_toB] at h
 have e : decide (toB l = ⟨#[45]⟩) = (l == [45]) := by
  rw [show (⟨#[45]⟩ : ByteArray) = toB [45] from rfl, Bool.eq_iff_iff, decide_eq_true_eq, toB_inj, beq_iff_eq]
 refine kE Tryz.func88 a_yaml_item_ok a_yaml_item_cb fun E hE => ?_
 refine kW ?_
 refine kQ [.v (.bool ([45, 32].isPrefixOf l))] ?_
 refine kW ?_
 refine AK.ret ⟨_, rfl, ?_⟩
 rw [e]
 rfl
theorem odd_a (l : Bs) : AC Tryz.prog 136 [.str (toB l)] (.bool (oddL l)) := by
 cases l with
 | nil =>
  have h := ixB_a ([91, 93, 123, 125, 44, 38, 42, 33, 124, 62, 37, 64, 35, 63, 58, 34, 39, 96] : Bs) 0
  refine kE Tryz.func136 a_yaml_odd_ok a_yaml_odd_cb fun E hE => ?_
  refine kW ?_
  refine kQ [.v (.int .i64 0)] ?_
  refine kW ?_
  refine AK.ret ⟨_, rfl, ?_⟩
  rfl
 | cons c l =>
  have h := ixB_a ([91, 93, 123, 125, 44, 38, 42, 33, 124, 62, 37, 64, 35, 63, 58, 34, 39, 96] : Bs) c
  have hm := ix_mem ([91, 93, 123, 125, 44, 38, 42, 33, 124, 62, 37, 64, 35, 63, 58, 34, 39, 96] : Bs) c
  have hne : decide (toB (c :: l) = ⟨#[]⟩) = false := by
   rw [show (⟨#[]⟩ : ByteArray) = toB [] from rfl, decide_eq_false_iff_not, toB_inj]
   simp
  have hat : (toB (c :: l)).data.getD (0 : Int).toNat 0 = c := toB_at (k := 0) rfl
  have hsz : (0 : Int) < (toB (c :: l)).size := by rw [toB_size, List.length_cons]; omega
  refine kE Tryz.func136 a_yaml_odd_ok a_yaml_odd_cb fun E hE => ?_
  refine kW ?_
  refine kQ [.v (.int .i64 (Lib.indexByte ([91, 93, 123, 125, 44, 38, 42, 33, 124, 62, 37, 64, 35, 63, 58, 34, 39, 96] : Bs) c))] ?_
  refine kW ?_
  refine AK.ret ⟨_, rfl, ?_⟩
  rw [hne]
  exact congrArg AV.bool hm
theorem isQ_eq (c : UInt8) : (decide ((c.toNat : Int) = 34) || decide ((c.toNat : Int) = 39)) = isQ c := by
 have e : ∀ n : Nat, n < 256 → (decide ((c.toNat : Int) = n)) = (c == n.toUInt8) := fun n hn => by
  rw [Bool.eq_iff_iff, decide_eq_true_eq, beq_iff_eq, ← UInt8.toNat_inj]
  simp [Nat.mod_eq_of_lt hn]
  omega
 rw [show ((34 : Int)) = ((34 : Nat) : Int) from rfl, show ((39 : Int)) = ((39 : Nat) : Int) from rfl, e 34 (by omega), e 39 (by omega)]
 rfl
theorem byteEq (c : UInt8) (n : Nat) (hn : n < 256) : decide ((c.toNat : Int) = (n : Int)) = (c == n.toUInt8) := by
 rw [Bool.eq_iff_iff, decide_eq_true_eq, beq_iff_eq, ← UInt8.toNat_inj]
 simp [Nat.mod_eq_of_lt hn]
 omega
theorem opens_a (l : Bs) (i : Nat) (c : UInt8) (hi : l[i]? = some c) (hl : l.length ≤ 1000000) : AC Tryz.prog 129 [.str (toB l), .int .i64 i] (.bool (isQ c && openB (prevL l i))) := by
 have hlt := (List.getElem?_eq_some_iff.1 hi).1
 have hat : (toB l).data.getD (i : Int).toNat 0 = c := toB_at (by simpa using hi)
 have hsz : (i : Int) < (toB l).size := by rw [toB_size]; omega
 have hq := isQ_eq c
 rcases i with _ | i
 ·have h := ixB_a ([32, 91, 123, 44] : Bs) c
  refine kE Tryz.func129 a_yaml_opens_ok a_yaml_opens_cb fun E hE => ?_
  refine kW ?_
  refine kP [.v (.int .i64 0)] ?_ ?_
  ·((repeat' apply And.intro) <;> first | exact kD | (intro hgd; refine ⟨?_, kG⟩; (repeat' apply And.intro) <;> first | exact kD | skip) | skip)
   all_goals (exfalso; simp [gd] at hgd)
  refine kW ?_
  refine AK.ret ⟨_, rfl, ?_⟩
  refine congrArg AV.bool ?_
  rw [hat]
  rw [hq]
  rfl
 ·obtain ⟨d, hd⟩ : ∃ d, l[i]? = some d := ⟨_, List.getElem?_eq_getElem (by omega)⟩
  have h := ixB_a ([32, 91, 123, 44] : Bs) d
  have hm := ix_mem ([32, 91, 123, 44] : Bs) d
  have hw : IntKind.i64.wrap (((i + 1 : Nat) : Int) - 1) = (i : Int) := by rw [wrap_in (by omega) (by omega)]; omega
  have hat2 : (toB l).data.getD (IntKind.i64.wrap (((i + 1 : Nat) : Int) - 1)).toNat 0 = d := by rw [hw]; exact toB_at (by simpa using hd)
  refine kE Tryz.func129 a_yaml_opens_ok a_yaml_opens_cb fun E hE => ?_
  refine kW ?_
  refine kP [.v (.int .i64 (Lib.indexByte ([32, 91, 123, 44] : Bs) d))] ?_ ?_
  ·((repeat' apply And.intro) <;> first | exact kD | (intro hgd; refine ⟨?_, kG⟩; (repeat' apply And.intro) <;> first | exact kD | skip) | skip)
   all_goals first | (rw [hw]; omega) | (rw [hat2]; exact h) | skip
  refine kW ?_
  refine AK.ret ⟨_, rfl, ?_⟩
  refine congrArg AV.bool ?_
  rw [hat, hq]
  have h0 : decide (((i + 1 : Nat) : Int) = 0) = false := by rw [decide_eq_false_iff_not]; omega
  rw [h0]
  have hp : prevL l (i + 1) = some d := by rw [prevL, if_neg (by omega)]; exact hd
  rw [hp]
  simp only [Bool.false_or]
  congr 1
  show decide (0 ≤ _) = _
  rw [hm]
  simp only [openB, List.contains, List.elem]
  cases d == 32 <;> cases d == 91 <;> cases d == 123 <;> cases d == 44 <;> rfl
end Go.Proofs.YtbfiopoefbbknaaGreatDoor
/-
 yaml.bare, split, lines: walked.
-/
namespace Go.Proofs.YtbfiopoefbbknaaGreatDoor
open Go.RowKit
theorem ne_toB (l : Bs) : decide (toB l = ⟨#[]⟩) = l.isEmpty := by
 rw [show (⟨#[]⟩ : ByteArray) = toB [] from rfl, Bool.eq_iff_iff, decide_eq_true_eq, toB_inj, List.isEmpty_iff]
theorem toB_fromI (l : Bs) (i : Nat) : (toB l).extract (i : Int).toNat ((toB l).size : Int).toNat = toB (l.drop i) := toB_from l i
theorem toB_toI (l : Bs) (i : Nat) (h : i ≤ l.length) : (toB l).extract (0 : Int).toNat (i : Int).toNat = toB (l.take i) := toB_to l i h
theorem drop_cons {l : Bs} {i : Nat} {c : UInt8} (h : l[i]? = some c) : l.drop i = c :: l.drop (i + 1) := by
 rw [List.drop_eq_getElem_cons (List.getElem?_eq_some_iff.1 h).1, (List.getElem?_eq_some_iff.1 h).2]
theorem hash_b (l : Bs) (i : Nat) (c : UInt8) (hi : l[i]? = some c) (hl : l.length ≤ 1000000) :
  (decide ((((toB l).data.getD (i : Int).toNat 0).toNat : Int) = 35) && (decide ((i : Int) = 0) || decide ((((toB l).data.getD (IntKind.i64.wrap ((i : Int) - 1)).toNat 0).toNat : Int) = 32))) = (c == 35 && blankB (prevL l i)) := by
 have hlt := (List.getElem?_eq_some_iff.1 hi).1
 have hat : (toB l).data.getD (i : Int).toNat 0 = c := toB_at (by simpa using hi)
 rw [hat, show (35 : Int) = ((35 : Nat) : Int) from rfl, byteEq c 35 (by omega)]
 congr 1
 rcases i with _ | i
 ·rfl
 ·obtain ⟨d, hd⟩ : ∃ d, l[i]? = some d := ⟨_, List.getElem?_eq_getElem (by omega)⟩
  have hw : IntKind.i64.wrap (((i + 1 : Nat) : Int) - 1) = (i : Int) := by rw [wrap_in (by omega) (by omega)]; omega
  have hat2 : (toB l).data.getD (IntKind.i64.wrap (((i + 1 : Nat) : Int) - 1)).toNat 0 = d := by rw [hw]; exact toB_at (by simpa using hd)
  have h0 : decide (((i + 1 : Nat) : Int) = 0) = false := by rw [decide_eq_false_iff_not]; omega
  have hp : prevL l (i + 1) = some d := by rw [prevL, if_neg (by omega)]; exact hd
  rw [h0, hat2, hp, show (32 : Int) = ((32 : Nat) : Int) from rfl, byteEq d 32 (by omega)]
  rfl
theorem ybare_a (l : Bs) (hl : l.length ≤ 1000000) : AC Tryz.prog 85 [.str (toB l)] (.str (toB (bareL l))) := by
 have hu := fun k => unquote_a (toB (l.drop k)) (by rw [toB_size, List.length_drop]; omega)
 refine kE Tryz.func85 a_yaml_bare_ok a_yaml_bare_cb fun E hE => ?_
 refine kW ?_
 refine AK.loopI (fun i : Nat => (frOf [(0, .str (toB l)), (3, .int .i64 i)], ⟨boxOf [], fun _ => 0⟩)) (fun i => i ≤ l.length ∧ ∃ n, l.length < n + i ∧ bareE l n i = bareE l (l.length + 1) 0) (fun i => l.length - i) 0 ⟨by omega, l.length + 1, by omega, rfl⟩ (Weak.intro ⟨kI, kI, trivial⟩ trivial rfl rfl) fun i ⟨hi, n, hn, hE⟩ => ?_
 refine kW ?_
 refine kC (fun hb => ?_) fun hb => ?_
 ·have hlt : i < l.length := by simpa [toB_size] using hb
  obtain ⟨c, hc⟩ : ∃ c, l[i]? = some c := ⟨_, List.getElem?_eq_getElem hlt⟩
  have hh := hash_b l i c hc hl
  have hop := opens_a l i c hc hl
  obtain ⟨n, rfl⟩ : ∃ m, n = m + 1 := ⟨n - 1, by omega⟩
  rw [bareE, drop_cons hc] at hE
  simp only at hE
  have hsz : (i : Int) < (toB l).size := by rw [toB_size]; omega
  refine kW ?_
  refine kP [] ?_ ?_
  ·((repeat' apply And.intro) <;> first | exact kD | (intro hgd; refine ⟨?_, kG⟩; (repeat' apply And.intro) <;> first | exact kD | skip) | skip)
   all_goals first
    | (rw [toB_size]; omega)
    | (have h0 : ¬ (i : Int) = 0 := by
         intro h0
         simp [gd, h0] at hgd
       rw [wrap_in (by omega) (by omega)]
       first | omega | (rw [toB_size]; omega))
  refine kC (fun hb => ?_) fun hb => ?_
  ·rw [hh] at hb
   rw [if_pos hb] at hE
   refine kW ?_
   refine kP [] ?_ ?_
   ·((repeat' apply And.intro) <;> first | exact kD | (intro hgd; refine ⟨?_, kG⟩; (repeat' apply And.intro) <;> first | exact kD | skip) | skip)
    all_goals (rw [toB_size]; omega)
   refine kW ?_
   refine AK.ret ⟨_, rfl, ?_⟩
   have e : (toB l).extract (0 : Int).toNat (i : Int).toNat = toB (bareL l) := by
    rw [bareL, ← hE]
    exact toB_to l i hi
   rw [e]
   rfl
  ·rw [hh] at hb
   rw [if_neg (by rw [hb]; simp)] at hE
   refine kW ?_
   refine kQ [.v (.bool (isQ c && openB (prevL l i)))] ?_
   refine kC (fun hb => ?_) fun hb => ?_
   ·rw [if_pos hb] at hE
    have hu2 := hu i
    rw [unq_eq, toB_list, drop_cons hc] at hu2
    cases hq : unqL (c :: l.drop (i + 1)) with
    | none =>
     rw [hq] at hE hu2
     simp only [qA] at hE hu2
     refine kW ?_
     refine kP [.v (.tup [.str ⟨#[]⟩, .str ⟨#[]⟩, .int .i64 11])] ?_ ?_
     ·((repeat' apply And.intro) <;> first | exact kD | (intro hgd; refine ⟨?_, kG⟩; (repeat' apply And.intro) <;> first | exact kD | skip) | skip)
      all_goals first | (rw [toB_size]; omega) | skip
      rw [toB_fromI, drop_cons hc]
      exact hu2
     refine kW ?_
     refine kC (fun hb => ?_) fun hb => ?_
     ·refine kW ?_
      refine AK.ret ⟨_, rfl, ?_⟩
      rw [bareL, ← hE, List.take_length]
      rfl
     ·simp at hb
    | some p =>
     obtain ⟨x, rest⟩ := p
     rw [hq] at hE hu2
     simp only [qA] at hE hu2
     have hz := unq_len hq
     simp only [List.length_cons, List.length_drop] at hz
     refine kW ?_
     refine kP [.v (.tup [.str ⟨x.toArray⟩, .str ⟨rest.toArray⟩, .int .i64 0])] ?_ ?_
     ·((repeat' apply And.intro) <;> first | exact kD | (intro hgd; refine ⟨?_, kG⟩; (repeat' apply And.intro) <;> first | exact kD | skip) | skip)
      all_goals first | (rw [toB_size]; omega) | skip
      rw [toB_fromI, drop_cons hc]
      exact hu2
     refine kW ?_
     refine kC (fun hb => ?_) fun hb => ?_
     ·simp at hb
     ·refine kW ?_
      refine AK.lp ⟨l.length - rest.length, ⟨by omega, n, by omega, hE⟩, (Weak.intro ⟨kI, ⟨_, rfl, .of_eq (congrArg _ ?_)⟩, trivial⟩ trivial rfl rfl), by omega⟩
      rw [toB_size, show (ByteArray.mk rest.toArray).size = rest.length from rfl]
      have w1 : IntKind.i64.wrap ((l.length : Int) - (rest.length : Int)) = (l.length : Int) - (rest.length : Int) := wrap_in (by omega) (by omega)
      have w2 : IntKind.i64.wrap ((l.length : Int) - (rest.length : Int) - 1) = (l.length : Int) - (rest.length : Int) - 1 := wrap_in (by omega) (by omega)
      rw [w1, w2, wrap_in (by omega) (by omega)]
      omega
   ·rw [if_neg (by rw [hb]; simp)] at hE
    refine kW ?_
    exact AK.lp ⟨i + 1, ⟨by omega, n, by omega, hE⟩, Weak.intro ⟨kI, kU, trivial⟩ trivial rfl rfl, by omega⟩
 ·have hlt : i = l.length := by have : l.length ≤ i := by simpa [toB_size] using hb
                                omega
  subst hlt
  refine AK.exit rfl ?_
  refine kW ?_
  refine AK.ret ⟨_, rfl, ?_⟩
  have e : bareL l = l := by
   rw [bareL, ← hE]
   cases n with
   | zero => rw [bareE, List.take_length]
   | succ n => rw [bareE, List.drop_length]; exact List.take_length
  rw [e]
  rfl
def splitA : Option (Bs × Bs) → AV
 | none => .tup [.str ⟨#[]⟩, .str ⟨#[]⟩, .bool false]
 | some (k, r) => .tup [.str (toB k), .str (toB r), .bool true]
theorem quoted_b (l : Bs) : ((!decide (toB l = ⟨#[]⟩)) && (decide ((((toB l).data.getD (0 : Int).toNat 0).toNat : Int) = 34) || decide ((((toB l).data.getD (0 : Int).toNat 0).toNat : Int) = 39))) = quoted l := by
 rw [ne_toB]
 cases l with
 | nil => rfl
 | cons c l =>
  rw [show (toB (c :: l)).data.getD (0 : Int).toNat 0 = c from toB_at (k := 0) rfl, isQ_eq]
  rfl
theorem split_a (l : Bs) (hl : l.length ≤ 1000000) : AC Tryz.prog 87 [.str (toB l)] (splitA (splitL l)) := by
 have hu := unquote_a (toB l) (by rw [toB_size]; omega)
 rw [unq_eq, toB_list] at hu
 have hq := quoted_b l
 unfold splitL
 refine kE Tryz.func87 a_yaml_split_ok a_yaml_split_cb fun E hE => ?_
 refine kW ?_
 refine kP [] ?_ ?_
 ·((repeat' apply And.intro) <;> first | exact kD | (intro hgd; refine ⟨?_, kG⟩; (repeat' apply And.intro) <;> first | exact kD | skip) | skip)
  all_goals
   cases l with
   | nil => simp [gd, ne_toB] at hgd
   | cons c l => rw [toB_size, List.length_cons]; omega
 refine kC (fun hb => ?_) fun hb => ?_
 ·rw [hq] at hb
  rw [if_pos hb]
  refine kW ?_
  cases hx : unqL l with
  | none =>
   rw [hx] at hu
   simp only [qA] at hu
   refine kQ [.v (.tup [.str ⟨#[]⟩, .str ⟨#[]⟩, .int .i64 11])] ?_
   refine kW ?_
   refine kP [.v (.bool false)] ?_ ?_
   ·((repeat' apply And.intro) <;> first | exact kD | (intro hgd; refine ⟨?_, kG⟩; (repeat' apply And.intro) <;> first | exact kD | skip) | skip)
    all_goals (exfalso; simp [gd] at hgd)
   refine kC (fun hb => ?_) fun hb => ?_
   ·refine kW ?_
    refine AK.ret ⟨_, rfl, ?_⟩
    rfl
   ·simp at hb
  | some p =>
   obtain ⟨key, rest⟩ := p
   rw [hx] at hu
   simp only [qA] at hu
   have hz := unq_len hx
   have hp := has_a (toB rest) ⟨#[58]⟩
   rw [has1_toB] at hp
   refine kQ [.v (.tup [.str ⟨key.toArray⟩, .str ⟨rest.toArray⟩, .int .i64 0])] ?_
   refine kW ?_
   cases rest with
   | nil =>
    refine kP [.v (.bool false)] ?_ ?_
    ·((repeat' apply And.intro) <;> first | exact kD | (intro hgd; refine ⟨?_, kG⟩; (repeat' apply And.intro) <;> first | exact kD | skip) | skip)
     all_goals first | exact hp | (exfalso; simp [gd] at hgd; done) | skip
    refine kC (fun hb => ?_) fun hb => ?_
    ·refine kW ?_
     refine AK.ret ⟨_, rfl, ?_⟩
     rfl
    ·simp at hb
   | cons c r =>
    have hsz : (ByteArray.mk (c :: r).toArray).size = r.length + 1 := rfl
    simp only at hp
    refine kP [.v (.bool (c == 58))] ?_ ?_
    ·((repeat' apply And.intro) <;> first | exact kD | (intro hgd; refine ⟨?_, kG⟩; (repeat' apply And.intro) <;> first | exact kD | skip) | skip)
     all_goals first
      | exact hp
      | (rw [hsz]
         have h1 : (1 : Int) < ((r.length + 1 : Nat) : Int) := by
          rw [hsz] at hgd
          simp [gd] at hgd
          omega
         omega)
    by_cases h58 : c = 58
    ·subst h58
     have hdr : (ByteArray.mk ((58 : UInt8) :: r).toArray).extract (1 : Int).toNat ((ByteArray.mk ((58 : UInt8) :: r).toArray).size : Int).toNat = toB r := toB_from (58 :: r) 1
     have ht := tl_a r
     cases r with
     | nil =>
      refine kC (fun hb => ?_) fun hb => ?_
      ·simp [hsz] at hb
      ·refine kW ?_
       refine kP [.v (.str (toB (tl [])))] ?_ ?_
       ·((repeat' apply And.intro) <;> first | exact kD | (intro hgd; refine ⟨?_, kG⟩; (repeat' apply And.intro) <;> first | exact kD | skip) | skip)
        all_goals first | (rw [hsz]; simp; done) | (rw [hdr]; exact ht) | skip
       refine kW ?_
       refine AK.ret ⟨_, rfl, ?_⟩
       rfl
     | cons d r =>
      have hat : (ByteArray.mk ((58 : UInt8) :: d :: r).toArray).data.getD (1 : Int).toNat 0 = d := rfl
      rw [hat, show (32 : Int) = ((32 : Nat) : Int) from rfl, byteEq d 32 (by omega), hsz]
      by_cases hd : d = 32
      ·subst hd
       refine kC (fun hb => ?_) fun hb => ?_
       ·simp at hb
       ·refine kW ?_
        refine kP [.v (.str (toB (tl (32 :: r))))] ?_ ?_
        ·((repeat' apply And.intro) <;> first | exact kD | (intro hgd; refine ⟨?_, kG⟩; (repeat' apply And.intro) <;> first | exact kD | skip) | skip)
         all_goals first | (rw [hsz]; simp; omega) | (rw [hdr]; exact ht) | skip
        refine kW ?_
        refine AK.ret ⟨_, rfl, ?_⟩
        rfl
      ·refine kC (fun hb => ?_) fun hb => ?_
       ·refine kW ?_
        refine AK.ret ⟨_, rfl, ?_⟩
        simp [hd, splitA]
        rfl
       ·exfalso
        simp [hd] at hb
        omega
    ·refine kC (fun hb => ?_) fun hb => ?_
     ·refine kW ?_
      refine AK.ret ⟨_, rfl, ?_⟩
      simp [h58, splitA]
      rfl
     ·exfalso
      simp [h58] at hb
 ·rw [hq] at hb
  rw [if_neg (by rw [hb]; simp)]
  have hi := index_a l [58, 32] hl
  have hsf := suff_a l [58] hl
  refine kW ?_
  rcases Lib.index_spec l [58, 32] with ⟨h1, _⟩ | ⟨i, h1, _⟩
  ·rw [h1] at hi ⊢
   rw [if_pos (by omega)]
   refine kQ [.v (.int .i64 (-1))] ?_
   refine kW ?_
   refine kC (fun hb => ?_) fun hb => ?_
   ·refine kW ?_
    refine kQ [.v (.bool (Lib.hasSuffix l [58]))] ?_
    refine kC (fun hb => ?_) fun hb => ?_
    ·rw [if_neg (by simpa using hb)]
     refine kW ?_
     refine AK.ret ⟨_, rfl, ?_⟩
     rfl
    ·have hs : Lib.hasSuffix l [58] = true := by simpa using hb
     rw [if_pos hs]
     have hne : 1 ≤ l.length := by
      cases l with
      | nil => simp [Lib.hasSuffix] at hs
      | cons c l => simp
     have hw : IntKind.i64.wrap (((toB l).size : Int) - 1) = ((l.length - 1 : Nat) : Int) := by rw [toB_size, wrap_in (by omega) (by omega)]; omega
     have hd : l.drop (l.length - 1 + 1) = [] := by rw [show l.length - 1 + 1 = l.length by omega]; exact List.drop_length
     refine kW ?_
     rw [hw]
     have hk := tr_a (l.take (l.length - 1)) (by rw [List.length_take]; omega)
     have ho := odd_a (tr (l.take (l.length - 1)))
     have hr := tl_a (l.drop ((l.length - 1) + 1))
     refine kP [.v (.str (toB (tr (l.take (l.length - 1)))))] ?_ ?_
     ·((repeat' apply And.intro) <;> first | exact kD | (intro hgd; refine ⟨?_, kG⟩; (repeat' apply And.intro) <;> first | exact kD | skip) | skip)
      all_goals first | (rw [toB_size]; omega) | (rw [toB_toI _ _ (by omega)]; exact hk) | skip
     refine kW ?_
     refine kQ [.v (.bool (oddL (tr (l.take (l.length - 1)))))] ?_
     refine kC (fun hb => ?_) fun hb => ?_
     ·rw [if_pos (by rw [ne_toB] at hb; simpa [List.isEmpty_iff] using hb)]
      refine kW ?_
      refine AK.ret ⟨_, rfl, ?_⟩
      rfl
     ·rw [if_neg (by rw [ne_toB] at hb; simpa [List.isEmpty_iff] using hb)]
      have hw1 : IntKind.i64.wrap (((l.length - 1) : Nat) + 1 : Int) = (((l.length - 1) + 1 : Nat) : Int) := by rw [wrap_in (by omega) (by omega)]; omega
      refine kW ?_
      refine kP [.v (.str (toB (tl (l.drop ((l.length - 1) + 1)))))] ?_ ?_
      ·((repeat' apply And.intro) <;> first | exact kD | (intro hgd; refine ⟨?_, kG⟩; (repeat' apply And.intro) <;> first | exact kD | skip) | skip)
       all_goals first | (rw [hw1, toB_size]; omega) | (rw [hw1]; omega) | (rw [hw1, toB_fromI]; exact hr) | skip
      refine kW ?_
      refine AK.ret ⟨_, rfl, ?_⟩
      (rw [hd]; rfl)
   ·simp at hb
  ·have h2 := Lib.index_room l [58, 32] (by omega)
   rw [h1] at hi h2 ⊢
   rw [if_neg (by omega)]
   simp only [List.length_cons, List.length_nil] at h2
   refine kQ [.v (.int .i64 i)] ?_
   refine kW ?_
   refine kC (fun hb => ?_) fun hb => ?_
   ·exfalso
    have : (i : Int) < 0 := by simpa using hb
    omega
   ·simp only [Int.toNat_natCast]
    refine kW ?_
    have hk := tr_a (l.take i) (by rw [List.length_take]; omega)
    have ho := odd_a (tr (l.take i))
    have hr := tl_a (l.drop (i + 1))
    refine kP [.v (.str (toB (tr (l.take i))))] ?_ ?_
    ·((repeat' apply And.intro) <;> first | exact kD | (intro hgd; refine ⟨?_, kG⟩; (repeat' apply And.intro) <;> first | exact kD | skip) | skip)
     all_goals first | (rw [toB_size]; omega) | (rw [toB_toI _ _ (by omega)]; exact hk) | skip
    refine kW ?_
    refine kQ [.v (.bool (oddL (tr (l.take i))))] ?_
    refine kC (fun hb => ?_) fun hb => ?_
    ·rw [if_pos (by rw [ne_toB] at hb; simpa [List.isEmpty_iff] using hb)]
     refine kW ?_
     refine AK.ret ⟨_, rfl, ?_⟩
     rfl
    ·rw [if_neg (by rw [ne_toB] at hb; simpa [List.isEmpty_iff] using hb)]
     have hw1 : IntKind.i64.wrap ((i : Nat) + 1 : Int) = ((i + 1 : Nat) : Int) := by rw [wrap_in (by omega) (by omega)]; omega
     refine kW ?_
     refine kP [.v (.str (toB (tl (l.drop (i + 1)))))] ?_ ?_
     ·((repeat' apply And.intro) <;> first | exact kD | (intro hgd; refine ⟨?_, kG⟩; (repeat' apply And.intro) <;> first | exact kD | skip) | skip)
      all_goals first | (rw [hw1, toB_size]; omega) | (rw [hw1]; omega) | (rw [hw1, toB_fromI]; exact hr) | skip
     refine kW ?_
     refine AK.ret ⟨_, rfl, ?_⟩
     rfl
end Go.Proofs.YtbfiopoefbbknaaGreatDoor
/-
 yaml.lines, walked: the lines of a text, in a row of the call's own.
-/
namespace Go.Proofs.YtbfiopoefbbknaaGreatDoor
open Go.RowKit
theorem linesL_app : ∀ a b : List Bs, linesL (a ++ b) = (match linesL a, linesL b with
  | some x, some y => some (x ++ y)
  | _, _ => none)
 | [], b => by
  show linesL b = (match some [], linesL b with | some x, some y => some (x ++ y) | _, _ => none)
  cases linesL b <;> rfl
 | x :: a, b => by
  have ih := linesL_app a b
  rw [List.cons_append, linesL, linesL, ih]
  cases oneLine x with
  | none => rfl
  | some o => cases linesL a with
   | none => rfl
   | some p => cases linesL b with
    | none => rfl
    | some q => simp
theorem linesL_one (x : Bs) : linesL [x] = (oneLine x).map fun o => o.toList := by
 rw [linesL, linesL]
 cases oneLine x <;> simp
def linesT (s : ByteArray) : Option (List (Nat × Bs)) := linesL ((splT 10 s).map fun x => x.data.toList)
def rowsLn (l : List (Nat × Bs)) : List (List AV) := l.map fun x => [.int .i64 x.1, .str (toB x.2)]
theorem rowsLn_len (l : List (Nat × Bs)) : (rowsLn l).length = l.length := List.length_map _
theorem linesL_len : ∀ {l : List Bs} {r : List (Nat × Bs)}, linesL l = some r → r.length ≤ l.length
 | [], r, h => by cases h; simp
 | x :: l, r, h => by
  rw [linesL] at h
  cases ho : oneLine x with
  | none => rw [ho] at h; cases h
  | some o =>
   rw [ho] at h
   cases hl : linesL l with
   | none => rw [hl] at h; cases h
   | some p =>
    rw [hl] at h
    cases h
    have := linesL_len hl
    cases o <;> simp <;> omega
theorem lines_walk (s : ByteArray) (hs : s.size ≤ 1000000) {E : Env} (Q : Exit → Fr → St → Prop)
  (h0 : linesT s = none → ∀ fr st, fr 2 = some (.lst .nil 2 []) → fr 3 = some (.int .i64 12) → Q .ret fr st)
  (h1 : ∀ ls, linesT s = some ls → ∀ fr st, fr 2 = some (.lst (.own 34 (st.row 34)) 2 (rowsLn ls)) → fr 3 = some (.int .i64 0) → Q .ret fr st) :
  AK Tryz.prog E Q [.c a_yaml_lines.body] (argFr 0 [.str s]) ⟨fun _ => none, fun _ => 0⟩ := by
 show AK _ _ _ [.c b_yaml_lines] _ _
 rw [b_yaml_lines]
 have hsp := splitT_a 10 s hs
 have hle := splT_le 10 s
 have hmem := fun x (h : x ∈ splT 10 s) => splT_mem h
 obtain ⟨ps, hps⟩ : ∃ ps, ps = splT 10 s := ⟨_, rfl⟩
 unfold linesT at h0 h1
 rw [← hps] at hsp hle hmem h0 h1
 clear hps
 refine kW ?_
 refine kQ [.v (.lst .any 1 (rowsT ps))] ?_
 refine kW ?_
 refine AK.loopI (fun i : Nat × (Nat → Nat) => (frOf [(3, .int .i64 0), (4, .lst (.own 34 (i.2 34)) 2 (rowsLn ((linesL ((ps.take i.1).map fun x => x.data.toList)).getD []))), (9, .lst .any 1 (rowsT ps)), (10, .int .i64 (rowsT ps).length), (11, .int .i64 i.1)], ⟨boxOf [], i.2⟩))
  (fun i => i.1 ≤ ps.length ∧ (linesL ((ps.take i.1).map fun x => x.data.toList)).isSome = true) (fun i => ps.length - i.1) (0, fun _ => 0) ⟨Nat.zero_le _, rfl⟩ (Weak.intro ⟨kI, ⟨_, rfl, .one (.own _ _ _ _)⟩, kI, kI, kI, trivial⟩ trivial rfl rfl) fun ⟨k, r⟩ ⟨hk, hsm⟩ => ?_
 dsimp only at hk hsm
 obtain ⟨acc, hacc⟩ := Option.isSome_iff_exists.1 hsm
 have haccl := linesL_len hacc
 rw [List.length_map, List.length_take] at haccl
 rw [hacc]
 refine kW ?_
 refine kC (fun hb => ?_) fun hb => ?_
 ·have hlt : k < ps.length := by simpa [rowsT_len] using hb
  obtain ⟨p, hg⟩ : ∃ x, ps[k]? = some x := ⟨_, List.getElem?_eq_getElem hlt⟩
  have hpz := hmem p (List.mem_of_getElem? hg)
  have hpz' : p.data.toList.length ≤ 1000000 := by show p.size ≤ _; omega
  have hst : (ps.take (k + 1)).map (fun x => x.data.toList) = (ps.take k).map (fun x => x.data.toList) ++ [p.data.toList] := by
   rw [List.take_add_one, hg, List.map_append]; rfl
  have hsplit : ps.map (fun x => x.data.toList) = (ps.take (k + 1)).map (fun x => x.data.toList) ++ (ps.drop (k + 1)).map (fun x => x.data.toList) := by
   rw [← List.map_append, List.take_append_drop]
  have hba := ybare_a p.data.toList hpz'
  rw [toB_eta] at hba
  have hbl : (bareL p.data.toList).length ≤ 1000000 := by unfold bareL; rw [List.length_take]; omega
  have htr := tr_a (bareL p.data.toList) hbl
  have htl := tl_a (tr (bareL p.data.toList))
  have hz1 := tr_len (bareL p.data.toList)
  have hz2 := tl_len (tr (bareL p.data.toList))
  have hone : oneLine p.data.toList = (match tl (tr (bareL p.data.toList)) with
   | [] => some none
   | c :: t => if c = 9 then none else some (some ((tr (bareL p.data.toList)).length - (c :: t).length, c :: t))) := rfl
  have hne := ne_toB (tl (tr (bareL p.data.toList)))
  refine kW ?_
  refine kP [.c [.str p]] ?_ ?_
  ·((repeat' apply And.intro) <;> first | exact kD | (intro hgd; refine ⟨?_, kG⟩; (repeat' apply And.intro) <;> first | exact kD | skip) | skip)
   ·exact rowsT_at hg
  refine kW ?_
  refine kQ [.v (.str (toB (bareL p.data.toList))), .v (.str (toB (tr (bareL p.data.toList))))] ?_
  refine kW ?_
  refine kQ [.v (.str (toB (tl (tr (bareL p.data.toList)))))] ?_
  refine kW ?_
  rw [hne]
  generalize hY : tr (bareL p.data.toList) = y at *
  cases hT : tl y with
  | nil =>
   rw [hT] at hone
   simp only at hone
   refine kC (fun hb => ?_) fun hb => ?_
   ·refine kW ?_
    refine AK.exit rfl ?_
    refine kW ?_
    refine AK.lp ⟨(k + 1, r), ⟨by dsimp only; omega, ?_⟩, Weak.intro ⟨kI, ⟨_, rfl, .of_eq ?_⟩, kI, kI, kU, trivial⟩ trivial rfl rfl, by dsimp only; omega⟩
    ·dsimp only
     rw [hst, linesL_app, hacc, linesL_one, hone]
     rfl
    ·dsimp only
     rw [hst, linesL_app, hacc, linesL_one, hone]
     simp
   ·simp at hb
  | cons c t =>
   rw [hT] at hone hz2
   simp only at hone
   simp only [List.length_cons] at hz2
   have hsz : (toB (c :: t)).size = t.length + 1 := rfl
   have hat : (toB (c :: t)).data.getD (0 : Int).toNat 0 = c := rfl
   refine kC (fun hb => ?_) fun hb => ?_
   ·simp at hb
   ·refine kW ?_
    refine kP [] ?_ ?_
    ·((repeat' apply And.intro) <;> first | exact kD | (intro hgd; refine ⟨?_, kG⟩; (repeat' apply And.intro) <;> first | exact kD | skip) | skip)
     all_goals first | (rw [hsz]; omega) | skip
    rw [hat, show (9 : Int) = ((9 : Nat) : Int) from rfl, byteEq c 9 (by omega)]
    by_cases h9 : c = 9
    ·subst h9
     have hnone : linesL (ps.map fun x => x.data.toList) = none := by
      rw [hsplit, hst, linesL_app, linesL_app, hacc, linesL_one, hone]
      rfl
     refine kC (fun hb => ?_) fun hb => ?_
     ·refine kW ?_
      exact AK.ret (h0 hnone _ _ rfl rfl)
     ·simp at hb
    ·rw [if_neg h9] at hone
     have hw : IntKind.i64.wrap (((toB y).size : Int) - ((toB (c :: t)).size : Int)) = ((y.length - (c :: t).length : Nat) : Int) := by
      rw [List.length_cons, toB_size, hsz, wrap_in (by omega) (by omega)]; omega
     refine kC (fun hb => ?_) fun hb => ?_
     ·simp [h9] at hb
     ·refine kW ?_
      refine kP [] ?_ ?_
      ·((repeat' apply And.intro) <;> first | exact kD | (intro hgd; refine ⟨?_, kG⟩; (repeat' apply And.intro) <;> first | exact kD | skip) | skip)
       all_goals simp only [rowsLn_len, List.length_nil, List.length_cons, Option.getD_some]
       all_goals omega
      refine kW ?_
      rw [hw]
      refine AK.lp ⟨(k + 1, _), ⟨by dsimp only; omega, ?_⟩, Weak.intro ⟨kI, ⟨_, rfl, .of_eq ?_⟩, kI, kI, kU, trivial⟩ trivial rfl rfl, by dsimp only; omega⟩
      ·dsimp only
       rw [hst, linesL_app, hacc, linesL_one, hone]
       rfl
      ·dsimp only
       rw [hst, linesL_app, hacc, linesL_one, hone]
       simp [rowsLn]
       exact ⟨by simp [appTag, appRow, upd_same], rfl, rfl⟩
 ·have hlt : k = ps.length := by have : ps.length ≤ k := by simpa [rowsT_len] using hb
                                 omega
  subst hlt
  rw [List.take_length] at hacc
  refine AK.exit rfl ?_
  refine kW ?_
  exact AK.ret (h1 acc hacc _ _ rfl rfl)
theorem lines_none (s : ByteArray) (hs : s.size ≤ 1000000) (h : linesT s = none) : AC Tryz.prog 46 [.str s] (.tup [.lst .any 2 [], .int .i64 12]) := by
 refine AC.enter Tryz.func46 a_yaml_lines_ok a_yaml_lines_cb (by rfl) fun E hE => lines_walk s hs _ (fun _ fr st e1 e2 => ⟨_, by show resVals fr st [.tmp 2, .tmp 3] = _; simp only [resVals, resValsG, resVal, e1, e2, AV.arg]; rfl, rfl⟩) fun ls hl => by rw [h] at hl; cases hl
theorem lines_nil (s : ByteArray) (hs : s.size ≤ 1000000) (h : linesT s = some []) : AC Tryz.prog 46 [.str s] (.tup [.lst .any 2 [], .int .i64 0]) := by
 refine AC.enter Tryz.func46 a_yaml_lines_ok a_yaml_lines_cb (by rfl) fun E hE => lines_walk s hs _ (fun hl => by rw [h] at hl; cases hl) fun ls hl fr st e1 e2 => ?_
 rw [h] at hl
 cases hl
 exact ⟨_, by show resVals fr st [.tmp 2, .tmp 3] = _; simp only [resVals, resValsG, resVal, e1, e2, AV.arg]; rfl, rfl⟩
theorem lines_mt (s : ByteArray) (hs : s.size ≤ 1000000) {ls : List (Nat × Bs)} (h : linesT s = some ls) (hne : ls ≠ []) : MT Tryz.prog 46 [.str s] 2 (rowsLn ls) [.int .i64 0] := by
 refine MT.enter Tryz.func46 a_yaml_lines_ok a_yaml_lines_cb (by rfl) (by rw [rowsLn_len]; exact List.length_pos_iff.2 hne) (by omega) (fun c hc x hx => ?_) (by simp) (fun x hx => ?_) fun E hE => lines_walk s hs _ (fun hl => by rw [h] at hl; cases hl) fun ls' hl fr st e1 e2 => ?_
 ·obtain ⟨p, _, rfl⟩ := List.mem_map.1 hc
  rcases List.mem_cons.1 hx with rfl | hx
  ·rfl
  ·rcases List.mem_cons.1 hx with rfl | hx
   ·rfl
   ·cases hx
 ·rcases List.mem_cons.1 hx with rfl | hx
  ·rfl
  ·cases hx
 ·rw [h] at hl
  cases hl
  exact ⟨2, 34, [.tmp 3], rfl, e1, by simp only [resVals, resValsG, resVal, e2, AV.arg]; rfl⟩
end Go.Proofs.YtbfiopoefbbknaaGreatDoor
namespace Go.Proofs.YtbfiopoefbbknaaGreatDoor
set_option maxRecDepth 100000
def b_tree_Put : ACode :=
 .seq (gQ [gP 3 0, gP 5 2, ⟨gO, .alloc 6 gZ⟩]) (.seq (.seq (gQ [gF 7 0 3, gL 8 7, gU 9 .neq 8 5]) (.cond (.s 9) (.reg [⟨gO, .build 10 gZ []⟩, gT 6 3 10]) .skip)) (.seq (gQ [gF 11 5 3, gL 12 11, ⟨gO, .callo (some 13) (.k (.fn 77 [])) [.s 12]⟩, gM 14 1, gA 15 6 5, ⟨gO, .build 16 [.str ⟨#[]⟩, .int .i64 0, .bool false, .int .i64 0, .str ⟨#[]⟩, .lst .nil 6 [], .lst .nil 7 []] [(0, 1, .s 14), (1, 6, .s 15)]⟩, ⟨gO, .bsl 17 1 7 [.str ⟨#[]⟩, .int .i64 0, .bool false, .int .i64 0, .str ⟨#[]⟩, .lst .nil 6 [], .lst .nil 7 []] [(0, 7, .s 16)]⟩, ⟨gO, .app 18 7 104 (.s 13) (.s 17)⟩, gC 19 35 [.s 18], gT 6 6 19]) .ret))
def a_tree_Put : AFn := ⟨3, 20, b_tree_Put, [.cell 6 6 true]⟩
theorem a_tree_Put_ok : fnAF Tryz.prog [1000077] Tryz.f39 = some a_tree_Put := by kernel_rfl
theorem a_tree_Put_cb : callable Tryz.prog 39 = true := by kernel_rfl
end Go.Proofs.YtbfiopoefbbknaaGreatDoor
