/-
  The texts that the claim wants, one behind the other: part 15.
-/
import Derived.Test.YtgekcnpfflhpkaaGreatDoorS14
import Derived.Lib.TrimByte
import Derived.Lib.IndexMore
import Derived.Test.YtgekcnpfflhpkaaGreatDoorChecked
import Derived.KernelRfl
set_option linter.unusedSimpArgs false
set_option linter.unusedVariables false
namespace Go.Proofs.YtgekcnpfflhpkaaGreatDoor
open Go.RowKit
abbrev Bs := List UInt8
def toB (l : Bs) : ByteArray := ⟨l.toArray⟩
def vList (l : List V) : V := .mk 4 false 0 ⟨#[]⟩ l []
def tl (l : Bs) : Bs := Lib.trimLeftB l 32
def tr (l : Bs) : Bs := Lib.trimRightB l 32
def isQ (c : UInt8) : Bool := c == 34 || c == 39
def unqL : Bs → Option (Bs × Bs)
 | [] => none
 | c :: l => if c = 34 then dbl l [] else if c = 39 then sgl l [] else none
theorem unq_eq (s : ByteArray) : unq s = unqL s.data.toList := rfl
def prevL (s : Bs) (i : Nat) : Option UInt8 := if i = 0 then none else s[i - 1]?
def blankB : Option UInt8 → Bool
 | none => true
 | some q => q == 32
def openB : Option UInt8 → Bool
 | none => true
 | some q => q == 32 || q == 91 || q == 123 || q == 44
def bareE (s : Bs) : Nat → Nat → Nat
 | 0, _ => s.length
 | n + 1, i => match s.drop i with
  | [] => s.length
  | c :: t => if (c == 35 && blankB (prevL s i)) = true then i else if (isQ c && openB (prevL s i)) = true then (match unqL (c :: t) with
   | none => s.length
   | some (_, rest) => bareE s n (s.length - rest.length))
   else bareE s n (i + 1)
def bareL (s : Bs) : Bs := s.take (bareE s (s.length + 1) 0)
def oneLine (x : Bs) : Option (Option (Nat × Bs)) :=
 match tl (tr (bareL x)) with
 | [] => some none
 | c :: t => if c = 9 then none else some (some ((tr (bareL x)).length - (c :: t).length, c :: t))
def linesL : List Bs → Option (List (Nat × Bs))
 | [] => some []
 | x :: l => match oneLine x with
  | none => none
  | some o => match linesL l with
   | none => none
   | some r => some (o.toList ++ r)
def isItem (s : Bs) : Bool := s == [45] || [45, 32].isPrefixOf s
def oddC (c : UInt8) : Bool := ([91, 93, 123, 125, 44, 38, 42, 33, 124, 62, 37, 64, 35, 63, 58, 34, 39, 96] : Bs).contains c
def oddL : Bs → Bool
 | [] => false
 | c :: _ => oddC c
def quoted : Bs → Bool
 | [] => false
 | c :: _ => isQ c
def splitL (s : Bs) : Option (Bs × Bs) :=
 if quoted s = true then (match unqL s with
  | none => none
  | some (key, rest) => match rest with
   | [] => none
   | c :: r => if c = 58 then (match r with
    | [] => some (key, [])
    | d :: _ => if d = 32 then some (key, tl r) else none) else none)
 else if Lib.index s [58, 32] < 0 then
  (if Lib.hasSuffix s [58] = true then (if tr (s.take (s.length - 1)) = [] ∨ oddL (tr (s.take (s.length - 1))) = true then none else some (tr (s.take (s.length - 1)), [])) else none)
 else if tr (s.take (Lib.index s [58, 32]).toNat) = [] ∨ oddL (tr (s.take (Lib.index s [58, 32]).toNat)) = true then none
 else some (tr (s.take (Lib.index s [58, 32]).toNat), tl (s.drop ((Lib.index s [58, 32]).toNat + 1)))
inductive FM where
 | one (ends : Bs)
 | flow (out : List V)
 | braces (out : List (ByteArray × V))
def badWord (w : Bs) : Bool := w.isEmpty || oddL w || decide (0 ≤ Lib.index w [58, 32]) || Lib.hasSuffix w [58]
def keyF (s : Bs) : Bs × Bs × Int :=
 if quoted s = true then (match unqL s with
  | none => ([], [], 11)
  | some (key, rest) => match rest with
   | [] => ([], [], 10)
   | c :: r => if c = 58 then (key, r, 0) else ([], [], 10))
 else if Lib.indexByte s 58 = -1 then ([], [], 10)
 else if ((tr (s.take (Lib.indexByte s 58).toNat)).isEmpty || oddL (tr (s.take (Lib.indexByte s 58).toNat)) || (tr (s.take (Lib.indexByte s 58).toNat)).contains 44 || (tr (s.take (Lib.indexByte s 58).toNat)).contains 93 || (tr (s.take (Lib.indexByte s 58).toNat)).contains 125) = true then ([], [], 10)
 else (tr (s.take (Lib.indexByte s 58).toNat), s.drop ((Lib.indexByte s 58).toNat + 1), 0)
def endAt (ends s : Bs) : Nat := if ends = [] then s.length else (s.takeWhile fun c => !ends.contains c).length
def flowF : Nat → FM → Bs → V × Bs × Int
 | 0, _, _ => (V.null, [], 10)
 | n + 1, .one ends, s => match tl s with
  | [] => (V.null, [], 10)
  | c :: t => if c = 91 then (match tl t with
    | [] => flowF n (.flow []) []
    | d :: u => if d = 93 then (vList [], tl u, 0) else flowF n (.flow []) (d :: u))
   else if c = 123 then (match tl t with
    | [] => flowF n (.braces []) []
    | d :: u => if d = 125 then (vMap [], tl u, 0) else flowF n (.braces []) (d :: u))
   else if isQ c = true then (match unqL (c :: t) with
    | none => (V.str ⟨#[]⟩, [], 11)
    | some (x, rest) => (V.str (toB x), tl rest, 0))
   else if badWord (tr ((c :: t).take (endAt ends (c :: t)))) = true then (V.null, [], 10)
   else ((scalP (toB (tr ((c :: t).take (endAt ends (c :: t)))))).1, (c :: t).drop (endAt ends (c :: t)), (scalP (toB (tr ((c :: t).take (endAt ends (c :: t)))))).2)
 | n + 1, .flow out, s => match flowF n (.one [44, 93]) s with
  | (v, rest, e) => if e ≠ 0 then (V.null, [], e) else match rest with
   | [] => (V.null, [], 10)
   | c :: u => if c = 93 then (vList (out ++ [v]), tl u, 0) else if c = 44 then flowF n (.flow (out ++ [v])) u else (V.null, [], 10)
 | n + 1, .braces out, s => match keyF (tl s) with
  | (key, rest, k) => if k ≠ 0 then (V.null, [], k) else if (mfind (toB key) out).isSome = true then (V.null, [], 13) else match flowF n (.one [44, 125]) rest with
   | (v, more, e) => if e ≠ 0 then (V.null, [], e) else match more with
    | [] => (V.null, [], 10)
    | c :: u => if c = 125 then (vMap (minsert (toB key) v out), tl u, 0) else if c = 44 then flowF n (.braces (minsert (toB key) v out)) u else (V.null, [], 10)
def inlineL (s : Bs) : V × Int := match flowF (2 * s.length + 1) (.one []) s with
 | (v, rest, e) => if e ≠ 0 then (V.null, e) else if rest ≠ [] then (V.null, 10) else (v, 0)
structure YR where
 l : List (Nat × Bs)
 at_ : Nat
 bad : Int
def YR.fail (st : YR) (e : Int) : YR := ⟨st.l, st.l.length, if st.bad = 0 then e else st.bad⟩
inductive YM where
 | block
 | below
 | list (out : List V)
 | pairs (out : List (ByteArray × V))
def inlS (s : Bs) (st : YR) : V × YR := match inlineL s with
 | (v, e) => if e ≠ 0 then (V.null, st.fail e) else (v, st)
def YR.deep (st : YR) (i : Nat) : Bool := match st.l[st.at_]? with
 | some (j, _) => decide (i < j)
 | none => false
def readF : Nat → YM → Nat → YR → V × YR
 | 0, _, _, st => (V.null, st)
 | n + 1, .block, i, st => match st.l[st.at_]? with
  | none => (V.null, st)
  | some (_, text) => match (if isItem text = true then readF n (.list []) i st else if (splitL text).isSome = true then readF n (.pairs []) i st else inlS text ⟨st.l, st.at_ + 1, st.bad⟩) with
   | (v, st1) => if st1.deep i = true then (V.null, st1.fail 12) else (v, st1)
 | n + 1, .below, i, st => match st.l[st.at_]? with
  | none => (V.null, st)
  | some (j, _) => if i < j then readF n .block j st else (V.null, st)
 | n + 1, .list out, i, st => match st.l[st.at_]? with
  | none => (vList out, st)
  | some (j, text) => if j = i ∧ isItem text = true then
    (if tl (text.drop 1) = [] then (match readF n .below i ⟨st.l, st.at_ + 1, st.bad⟩ with
     | (v, st1) => readF n (.list (out ++ [v])) i st1)
    else (match readF n .block (i + text.length - (tl (text.drop 1)).length) ⟨st.l.set st.at_ (i + text.length - (tl (text.drop 1)).length, tl (text.drop 1)), st.at_, st.bad⟩ with
     | (v, st1) => readF n (.list (out ++ [v])) i st1))
   else (vList out, st)
 | n + 1, .pairs out, i, st => match st.l[st.at_]? with
  | none => (vMap out, st)
  | some (j, text) => if j = i then (if isItem text = true then (V.null, st.fail 10) else match splitL text with
    | none => (V.null, st.fail 10)
    | some (key, rest) => if (mfind (toB key) out).isSome = true then (V.null, st.fail 13) else match (if rest = [] then readF n .below i ⟨st.l, st.at_ + 1, st.bad⟩ else inlS rest ⟨st.l, st.at_ + 1, st.bad⟩) with
     | (v, st1) => readF n (.pairs (minsert (toB key) v out)) i st1)
   else (vMap out, st)
def wAt (l : List (Nat × Bs)) : Nat := (l.map fun x => x.2.length + 1).sum
def YR.w (st : YR) : Nat := wAt (st.l.drop st.at_)
def parseT (ls : List (Nat × Bs)) : V × Int := match ls with
 | [] => (V.null, 0)
 | (i, _) :: _ => match readF (3 * wAt ls + 3) .block i ⟨ls, 0, 0⟩ with
  | (v, st) => if st.bad ≠ 0 then (V.null, st.bad) else if st.at_ < ls.length then (V.null, 10) else if v.checkC ≠ 0 then (V.null, v.checkC) else (v, 0)
def parseL (s : ByteArray) : V × Int := if 65536 < s.size then (V.null, 6) else match linesL ((splT 10 s).map fun x => x.data.toList) with
 | none => (V.null, 12)
 | some ls => parseT ls
end Go.Proofs.YtgekcnpfflhpkaaGreatDoor
/-
 What yaml.Parse reads is bounded by its text: plain laws.
-/
namespace Go.Proofs.YtgekcnpfflhpkaaGreatDoor
open Go.RowKit
theorem tl_len (l : Bs) : (tl l).length ≤ l.length := (List.dropWhile_sublist _).length_le
theorem tr_len (l : Bs) : (tr l).length ≤ l.length := by
 unfold tr Lib.trimRightB
 have := (List.dropWhile_sublist (p := (· == (32 : UInt8))) (l := l.reverse)).length_le
 simpa using this
theorem dbl_len : ∀ (n : Nat) (l out x r : Bs), l.length ≤ n → dbl l out = some (x, r) → x.length + r.length + 1 ≤ out.length + l.length := by
 intro n
 induction n with
 | zero =>
  intro l out x r hl h
  have : l = [] := List.eq_nil_of_length_eq_zero (by omega)
  subst this
  simp [dbl] at h
 | succ n ih =>
  intro l out x r hl h
  cases l with
  | nil => simp [dbl] at h
  | cons c l =>
   rw [dbl_cons] at h
   simp only [List.length_cons] at hl ⊢
   split at h
   ·cases h; omega
   ·split at h
    ·cases l with
     | nil => cases h
     | cons d l =>
      simp only [List.length_cons] at hl ⊢
      simp only at h
      split at h
      ·have := ih l _ x r (by omega) h; simp at this; omega
      ·split at h
       ·have := ih l _ x r (by omega) h; simp at this; omega
       ·split at h
        ·have := ih l _ x r (by omega) h; simp at this; omega
        ·cases h
    ·split at h
     ·cases h
     ·have := ih l _ x r (by omega) h; simp at this; omega
theorem sgl_len : ∀ (n : Nat) (l out x r : Bs), l.length ≤ n → sgl l out = some (x, r) → x.length + r.length + 1 ≤ out.length + l.length := by
 intro n
 induction n with
 | zero =>
  intro l out x r hl h
  have : l = [] := List.eq_nil_of_length_eq_zero (by omega)
  subst this
  simp [sgl] at h
 | succ n ih =>
  intro l out x r hl h
  cases l with
  | nil => simp [sgl] at h
  | cons c l =>
   rw [sgl_cons] at h
   simp only [List.length_cons] at hl ⊢
   split at h
   ·cases l with
    | nil => cases h; simp
    | cons d l =>
     simp only [List.length_cons] at hl ⊢
     simp only at h
     split at h
     ·have := ih l _ x r (by omega) h; simp at this; omega
     ·cases h; simp only [List.length_cons]; omega
   ·have := ih l _ x r (by omega) h; simp at this; omega
theorem unq_len {l x r : Bs} (h : unqL l = some (x, r)) : x.length + r.length + 2 ≤ l.length := by
 cases l with
 | nil => cases h
 | cons c l =>
  simp only [unqL] at h
  simp only [List.length_cons]
  split at h
  ·have := dbl_len _ l _ x r (Nat.le_refl _) h; simp at this; omega
  ·split at h
   ·have := sgl_len _ l _ x r (Nat.le_refl _) h; simp at this; omega
   ·cases h
theorem scal_leaf (s : ByteArray) : (scalP s).1.ord ∧ (s.size ≤ 1000000 → (scalP s).1.sb) ∧ (scalP s).1.size = 1 := by
 have hz : ∀ k b n s, (V.mk k b n s [] []).size = 1 := fun k b n s => by rw [V.size_eq]; rfl
 have ho : ∀ k b n s, k ≠ 5 → (V.mk k b n s [] []).ord := fun k b n s hk => (V.ord_eq _).2 ⟨fun h => absurd h hk, fun _ => rfl, List.Pairwise.nil, fun p hp => by cases hp⟩
 have hs : ∀ k b n s, s.size ≤ 1000000 → (V.mk k b n s [] []).sb := fun k b n s h => (V.sb_eq _).2 ⟨by show s.size ≤ _; omega, ⟨by simp [V.l], by simp [V.m]⟩, (sbL_iff _).2 (fun x hx => by cases hx), (sbM_iff _).2 (fun x hx => by cases hx)⟩
 unfold scalP
 split
 ·exact ⟨ho _ _ _ _ (by decide), fun _ => hs _ _ _ _ (by decide), hz _ _ _ _⟩
 ·split
  ·exact ⟨ho _ _ _ _ (by decide), fun _ => hs _ _ _ _ (by decide), hz _ _ _ _⟩
  ·split
   ·exact ⟨ho _ _ _ _ (by decide), fun h => hs _ _ _ _ h, hz _ _ _ _⟩
   ·split
    ·exact ⟨ho _ _ _ _ (by decide), fun _ => hs _ _ _ _ (by decide), hz _ _ _ _⟩
    ·exact ⟨ho _ _ _ _ (by decide), fun _ => hs _ _ _ _ (by decide), hz _ _ _ _⟩
def RdL (l : List V) : Prop := ∀ x ∈ l, x.ord ∧ x.sb
def RdM (m : List (ByteArray × V)) : Prop := Rises m ∧ ∀ p ∈ m, p.1.size ≤ 1000000 ∧ p.2.ord ∧ p.2.sb
def FMok : FM → Prop
 | .one _ => True
 | .flow out => RdL out
 | .braces out => RdM out
def FMsz : FM → Nat
 | .one _ => 0
 | .flow out => sizeL out
 | .braces out => sizeM out
theorem vList_size (l : List V) : (vList l).size = 1 + sizeL l := by simp [vList, V.size, sizeM]
theorem null_sb : V.null.sb := (V.sb_eq _).2 ⟨by decide, ⟨by simp [V.null, V.l], by simp [V.null, V.m]⟩, (sbL_iff _).2 (fun x hx => by cases hx), (sbM_iff _).2 (fun x hx => by cases hx)⟩
theorem str_rd (s : ByteArray) (h : s.size ≤ 1000000) : (V.str s).ord ∧ (V.str s).sb ∧ (V.str s).size = 1 :=
 ⟨(V.ord_eq _).2 ⟨fun h => absurd h (by simp [V.str, V.kind]), fun _ => rfl, List.Pairwise.nil, fun p hp => by cases hp⟩,
  (V.sb_eq _).2 ⟨by show s.size ≤ _; omega, ⟨by simp [V.str, V.l], by simp [V.str, V.m]⟩, (sbL_iff _).2 (fun x hx => by cases hx), (sbM_iff _).2 (fun x hx => by cases hx)⟩, by rw [V.size_eq]; rfl⟩
theorem vList_rd {l : List V} (h : RdL l) (hz : sizeL l ≤ 2000000000000) : (vList l).ord ∧ (vList l).sb :=
 ⟨(V.ord_eq _).2 ⟨fun h => absurd h (by simp [vList, V.kind]), fun _ => rfl, List.Pairwise.nil, fun p hp => by cases hp⟩,
  (V.sb_eq _).2 ⟨by show ByteArray.size ⟨#[]⟩ ≤ _; decide, ⟨by show l.length ≤ _; have := len_le_sizeL l; omega, by simp [vList, V.m]⟩, (sbL_iff _).2 (fun x hx => (h x hx).2), (sbM_iff _).2 (fun x hx => by cases hx)⟩⟩
theorem vMap_rd {m : List (ByteArray × V)} (h : RdM m) (hz : sizeM m ≤ 2000000000000) : (vMap m).ord ∧ (vMap m).sb :=
 ⟨vMap_ord h.1 fun p hp => (h.2 p hp).2.1,
  (V.sb_eq _).2 ⟨by show ByteArray.size ⟨#[]⟩ ≤ _; decide, ⟨by simp [vMap, V.l], by show m.length ≤ _; have := len_le_sizeM m; omega⟩, (sbL_iff _).2 (fun x hx => by cases hx), (sbM_iff _).2 (fun p hp => ⟨by have := (h.2 p hp).1; omega, (h.2 p hp).2.2⟩)⟩⟩
theorem RdL.snoc {l : List V} {x : V} (h : RdL l) (ho : x.ord) (hs : x.sb) : RdL (l ++ [x]) := by
 intro y hy
 rcases List.mem_append.1 hy with hy | hy
 ·exact h y hy
 ·simp at hy; subst hy; exact ⟨ho, hs⟩
theorem RdM.put {m : List (ByteArray × V)} {k : ByteArray} {x : V} (h : RdM m) (hk : k.size ≤ 1000000) (ho : x.ord) (hs : x.sb) : RdM (minsert k x m) := by
 refine ⟨minsert_rises h.1, fun p hp => ?_⟩
 rcases minsert_mem hp with rfl | hp
 ·exact ⟨hk, ho, hs⟩
 ·exact h.2 p hp
theorem minsert_le (k : ByteArray) (x : V) : ∀ m : List (ByteArray × V), sizeM (minsert k x m) ≤ sizeM m + x.size
 | [] => by simp [minsert, sizeM]
 | (y, z) :: m => by
  have := minsert_le k x m
  rw [minsert]
  split
  ·simp only [sizeM]; omega
  ·split
   ·simp only [sizeM]; omega
   ·simp only [sizeM]; omega
theorem keyF_len {s key rest : Bs} (h : keyF s = (key, rest, 0)) : key.length ≤ s.length ∧ rest.length + 1 ≤ s.length := by
 unfold keyF at h
 split at h
 ·split at h
  ·cases h
  ·rename_i x r hu
   have := unq_len hu
   split at h
   ·cases h
   ·rename_i c r'
    simp only [List.length_cons] at this
    split at h
    ·cases h; omega
    ·cases h
 ·split at h
  ·cases h
  ·rename_i hi
   split at h
   ·cases h
   ·cases h
    have h1 := tr_len (s.take (Lib.indexByte s 58).toNat)
    rcases ixT_cases s 58 with ⟨h2, _⟩ | ⟨i, h2, h3, _⟩
    ·exact absurd h2 hi
    ·rw [h2] at h1 ⊢
     simp only [Int.toNat_natCast, List.length_take, List.length_drop] at h1 ⊢
     omega
structure FOk (sz : Nat) (s : Bs) (r : V × Bs × Int) : Prop where
 ord : r.1.ord
 sb : r.1.sb
 le : r.2.1.length ≤ s.length
 fit : r.2.2 = 0 → r.1.size + r.2.1.length ≤ s.length + sz
 any : r.1.size ≤ s.length + sz + 1
theorem FOk.bad (sz : Nat) (s : Bs) {e : Int} (h : e ≠ 0) : FOk sz s (V.null, [], e) := ⟨null_ord, null_sb, by simp, fun h' => absurd h' h, by rw [null_size]; omega⟩
theorem flow_ok : ∀ (n : Nat) (m : FM) (s : Bs), s.length ≤ 1000000 → FMsz m + s.length ≤ 1000000000 → FMok m → FOk (FMsz m) s (flowF n m s)
 | 0, m, s, _, _, _ => FOk.bad _ _ (by decide)
 | n + 1, .one ends, s, hs, hz, hm => by
  have hl := tl_len s
  unfold flowF
  split
  ·exact FOk.bad _ _ (by decide)
  ·rename_i c t ht
   rw [ht] at hl
   simp only [List.length_cons] at hl
   have hl2 := tl_len t
   split
   ·split
    ·have h := flow_ok n (.flow []) [] (by simp) (by simp [FMsz, sizeL]) (fun x hx => by cases hx)
     exact ⟨h.ord, h.sb, Nat.le_trans (show _ ≤ 0 from h.le) (Nat.zero_le _), fun he => by have := h.fit he; simp only [FMsz, sizeL, List.length_nil] at this ⊢; omega, by have := h.any; simp only [FMsz, sizeL, List.length_nil] at this ⊢; omega⟩
    ·rename_i d u hu
     rw [hu] at hl2
     simp only [List.length_cons] at hl2
     split
     ·have h1 := tl_len u
      have h2 := vList_rd (l := []) (fun x hx => by cases hx) (by simp [sizeL])
      exact ⟨h2.1, h2.2, by simp only; omega, fun _ => by rw [vList_size]; simp only [sizeL, FMsz]; omega, by rw [vList_size]; simp only [sizeL, FMsz]; omega⟩
     ·have h := flow_ok n (.flow []) (d :: u) (by simp only [List.length_cons]; omega) (by simp only [FMsz, sizeL, List.length_cons]; omega) (fun x hx => by cases hx)
      exact ⟨h.ord, h.sb, by have := h.le; simp only [List.length_cons] at this; omega, fun he => by have := h.fit he; simp only [FMsz, sizeL, List.length_cons] at this ⊢; omega, by have := h.any; simp only [FMsz, sizeL, List.length_cons] at this ⊢; omega⟩
   ·split
    ·split
     ·have h := flow_ok n (.braces []) [] (by simp) (by simp [FMsz, sizeM]) ⟨List.Pairwise.nil, fun x hx => by cases hx⟩
      exact ⟨h.ord, h.sb, Nat.le_trans (show _ ≤ 0 from h.le) (Nat.zero_le _), fun he => by have := h.fit he; simp only [FMsz, sizeM, List.length_nil] at this ⊢; omega, by have := h.any; simp only [FMsz, sizeM, List.length_nil] at this ⊢; omega⟩
     ·rename_i d u hu
      rw [hu] at hl2
      simp only [List.length_cons] at hl2
      split
      ·have h1 := tl_len u
       have h2 := vMap_rd (m := []) ⟨List.Pairwise.nil, fun x hx => by cases hx⟩ (by simp [sizeM])
       exact ⟨h2.1, h2.2, by simp only; omega, fun _ => by rw [vMap_size]; simp only [sizeM, FMsz]; omega, by rw [vMap_size]; simp only [sizeM, FMsz]; omega⟩
      ·have h := flow_ok n (.braces []) (d :: u) (by simp only [List.length_cons]; omega) (by simp only [FMsz, sizeM, List.length_cons]; omega) ⟨List.Pairwise.nil, fun x hx => by cases hx⟩
       exact ⟨h.ord, h.sb, by have := h.le; simp only [List.length_cons] at this; omega, fun he => by have := h.fit he; simp only [FMsz, sizeM, List.length_cons] at this ⊢; omega, by have := h.any; simp only [FMsz, sizeM, List.length_cons] at this ⊢; omega⟩
    ·split
     ·split
      ·have h := str_rd ⟨#[]⟩ (by decide)
       exact ⟨h.1, h.2.1, by simp, (fun he => absurd he (by decide)), (by rw [h.2.2]; omega)⟩
      ·rename_i x rest hu
       have h1 := unq_len hu
       simp only [List.length_cons] at h1
       have h2 := tl_len rest
       have h := str_rd (toB x) (by show x.length ≤ _; omega)
       exact ⟨h.1, h.2.1, by simp only; omega, fun _ => by rw [h.2.2]; simp only [FMsz]; omega, by rw [h.2.2]; omega⟩
     ·split
      ·exact FOk.bad _ _ (by decide)
      ·rename_i hw
       have hne : 1 ≤ endAt ends (c :: t) := by
        rcases Nat.eq_zero_or_pos (endAt ends (c :: t)) with h0 | h0
        ·rw [h0] at hw
         simp [badWord, tr, Lib.trimRightB] at hw
        ·exact h0
       have hsz : (tr ((c :: t).take (endAt ends (c :: t)))).length ≤ s.length := by
        have h1 := tr_len ((c :: t).take (endAt ends (c :: t)))
        have h2 : ((c :: t).take (endAt ends (c :: t))).length ≤ (c :: t).length := by rw [List.length_take]; omega
        simp only [List.length_cons] at h2
        omega
       have h := scal_leaf (toB (tr ((c :: t).take (endAt ends (c :: t)))))
       exact ⟨h.1, h.2.1 (by show (tr ((c :: t).take (endAt ends (c :: t)))).length ≤ _; omega), by simp only [List.length_drop, List.length_cons]; omega, fun _ => by rw [h.2.2]; simp only [FMsz, List.length_drop, List.length_cons]; omega, by rw [h.2.2]; omega⟩
 | n + 1, .flow out, s, hs, hz, hm => by
  have h := flow_ok n (.one [44, 93]) s hs (by simp only [FMsz] at hz ⊢; omega) trivial
  unfold flowF
  split
  rename_i v rest e hr
  rw [hr] at h
  split
  ·rename_i he; exact FOk.bad _ _ he
  ·rename_i he
   have he : e = 0 := by simpa using he
   have hf := h.fit he
   simp only [FMsz] at hf hz
   have hso : RdL (out ++ [v]) := RdL.snoc hm h.ord h.sb
   have hsz : sizeL (out ++ [v]) = sizeL out + v.size := by rw [sizeL_append]; simp [sizeL]
   split
   ·exact FOk.bad _ _ (by decide)
   ·rename_i c u
    simp only [List.length_cons] at hf
    split
    ·have h1 := tl_len u
     have h2 := vList_rd hso (by omega)
     exact ⟨h2.1, h2.2, by simp only; omega, fun _ => by rw [vList_size, hsz]; simp only [FMsz]; omega, by rw [vList_size, hsz]; simp only [FMsz]; omega⟩
    ·split
     ·have h3 := flow_ok n (.flow (out ++ [v])) u (by omega) (by simp only [FMsz, hsz]; omega) hso
      exact ⟨h3.ord, h3.sb, by have := h3.le; omega, fun he => by have := h3.fit he; simp only [FMsz, hsz] at this ⊢; omega, by have := h3.any; simp only [FMsz, hsz] at this ⊢; omega⟩
     ·exact FOk.bad _ _ (by decide)
 | n + 1, .braces out, s, hs, hz, hm => by
  have hl := tl_len s
  unfold flowF
  split
  rename_i key rest k hk
  split
  ·rename_i he; exact FOk.bad _ _ he
  ·rename_i he
   have he : k = 0 := by simpa using he
   subst he
   obtain ⟨k1, k2⟩ := keyF_len hk
   split
   ·exact FOk.bad _ _ (by decide)
   ·have h := flow_ok n (.one [44, 125]) rest (by omega) (by simp only [FMsz] at hz ⊢; omega) trivial
    split
    rename_i v more e hr
    rw [hr] at h
    split
    ·rename_i he; exact FOk.bad _ _ he
    ·rename_i he
     have he : e = 0 := by simpa using he
     have hf := h.fit he
     simp only [FMsz] at hf hz
     have hso : RdM (minsert (toB key) v out) := RdM.put hm (by show key.length ≤ _; omega) h.ord h.sb
     have hsz := minsert_le (toB key) v out
     split
     ·exact FOk.bad _ _ (by decide)
     ·rename_i c u
      simp only [List.length_cons] at hf
      split
      ·have h1 := tl_len u
       have h2 := vMap_rd hso (by omega)
       exact ⟨h2.1, h2.2, by simp only; omega, fun _ => by rw [vMap_size]; simp only [FMsz]; omega, by rw [vMap_size]; simp only [FMsz]; omega⟩
      ·split
       ·have h3 := flow_ok n (.braces (minsert (toB key) v out)) u (by omega) (by simp only [FMsz]; omega) hso
        exact ⟨h3.ord, h3.sb, by have := h3.le; omega, fun he => by have := h3.fit he; simp only [FMsz] at this ⊢; omega, by have := h3.any; simp only [FMsz] at this ⊢; omega⟩
       ·exact FOk.bad _ _ (by decide)
theorem inline_ok (s : Bs) (hs : s.length ≤ 1000000) : (inlineL s).1.ord ∧ (inlineL s).1.sb ∧ (inlineL s).1.size ≤ s.length + 1 := by
 have h := flow_ok (2 * s.length + 1) (.one []) s hs (by simp only [FMsz]; omega) trivial
 unfold inlineL
 split
 rename_i v rest e hr
 rw [hr] at h
 split
 ·exact ⟨null_ord, null_sb, by rw [null_size]; omega⟩
 ·split
  ·exact ⟨null_ord, null_sb, by rw [null_size]; omega⟩
  ·exact ⟨h.ord, h.sb, by have := h.any; simp only [FMsz] at this; omega⟩
end Go.Proofs.YtgekcnpfflhpkaaGreatDoor
/-
 What yaml's reader reads is bounded by its lines: plain laws.
-/
namespace Go.Proofs.YtgekcnpfflhpkaaGreatDoor
open Go.RowKit
theorem split_len {s key rest : Bs} (h : splitL s = some (key, rest)) : key.length ≤ s.length ∧ rest.length ≤ s.length := by
 unfold splitL at h
 split at h
 ·split at h
  ·cases h
  ·rename_i x r hu
   have := unq_len hu
   split at h
   ·cases h
   ·rename_i c r'
    simp only [List.length_cons] at this
    split at h
    ·split at h
     ·cases h; simp; omega
     ·rename_i d r2
      have h2 := tl_len (d :: r2)
      simp only [List.length_cons] at this h2
      split at h
      ·cases h; omega
      ·cases h
    ·cases h
 ·split at h
  ·split at h
   ·split at h
    ·cases h
    ·cases h
     have h1 := tr_len (s.take (s.length - 1))
     rw [List.length_take] at h1
     simp
     omega
   ·cases h
  ·split at h
   ·cases h
   ·cases h
    have h1 := tr_len (s.take (Lib.index s [58, 32]).toNat)
    have h2 := tl_len (s.drop ((Lib.index s [58, 32]).toNat + 1))
    rw [List.length_take] at h1
    rw [List.length_drop] at h2
    omega
structure YInv (st : YR) : Prop where
 at_ : st.at_ ≤ st.l.length
 len : st.l.length ≤ 1000000
 ln : ∀ x ∈ st.l, x.1 + x.2.length ≤ 1000000
def YMok : YM → Prop
 | .block => True
 | .below => True
 | .list out => RdL out
 | .pairs out => RdM out
def YMsz : YM → Nat
 | .block => 0
 | .below => 0
 | .list out => sizeL out
 | .pairs out => sizeM out
theorem YR.w_at {st : YR} {x : Nat × Bs} (h : st.l[st.at_]? = some x) : st.w = x.2.length + 1 + (YR.mk st.l (st.at_ + 1) st.bad).w := by
 unfold YR.w wAt
 rw [drop_at h, List.map_cons, List.sum_cons]
theorem YR.w_set {st : YR} {x y : Nat × Bs} (h : st.l[st.at_]? = some x) : (YR.mk (st.l.set st.at_ y) st.at_ st.bad).w = y.2.length + 1 + (YR.mk st.l (st.at_ + 1) st.bad).w := by
 have hl := (List.getElem?_eq_some_iff.1 h).1
 unfold YR.w wAt
 simp only
 rw [drop_at (x := y) (by rw [List.getElem?_set_self hl]), List.map_cons, List.sum_cons, List.drop_set_of_lt (by omega)]
theorem YR.w_fail (st : YR) (e : Int) : (st.fail e).w = 0 := by unfold YR.w YR.fail wAt; simp
theorem YInv.fail {st : YR} (h : YInv st) (e : Int) : YInv (st.fail e) := ⟨Nat.le_refl _, h.len, h.ln⟩
theorem YInv.next {st : YR} (h : YInv st) {x : Nat × Bs} (hx : st.l[st.at_]? = some x) : YInv ⟨st.l, st.at_ + 1, st.bad⟩ := ⟨(List.getElem?_eq_some_iff.1 hx).1, h.len, h.ln⟩
theorem YInv.set {st : YR} (h : YInv st) {y : Nat × Bs} (hy : y.1 + y.2.length ≤ 1000000) : YInv ⟨st.l.set st.at_ y, st.at_, st.bad⟩ := by
 refine ⟨by simpa using h.at_, by simpa using h.len, fun x hx => ?_⟩
 rcases List.mem_or_eq_of_mem_set hx with hx | rfl
 ·exact h.ln x hx
 ·exact hy
structure ROk (sz : Nat) (st : YR) (r : V × YR) : Prop where
 ord : r.1.ord
 sb : r.1.sb
 inv : YInv r.2
 len : r.2.l.length = st.l.length
 w : r.2.w ≤ st.w
 fit : r.1.size + r.2.w ≤ st.w + 1 + sz
theorem ROk.failed {st st1 : YR} (h : YInv st1) (hl : st1.l.length = st.l.length) (sz : Nat) (e : Int) : ROk sz st (V.null, st1.fail e) :=
 ⟨null_ord, null_sb, h.fail e, hl, by rw [YR.w_fail]; omega, by rw [YR.w_fail, null_size]; omega⟩
theorem inl_ok {st : YR} (h : YInv st) {s : Bs} (hs : s.length ≤ 1000000) : (inlS s st).1.ord ∧ (inlS s st).1.sb ∧ YInv (inlS s st).2 ∧ (inlS s st).2.l.length = st.l.length ∧ (inlS s st).2.w ≤ st.w ∧ (inlS s st).1.size ≤ s.length + 1 := by
 have hi := inline_ok s hs
 unfold inlS
 split
 rename_i v e he
 rw [he] at hi
 split
 ·exact ⟨null_ord, null_sb, h.fail e, rfl, by rw [YR.w_fail]; omega, by rw [null_size]; omega⟩
 ·exact ⟨hi.1, hi.2.1, h, rfl, Nat.le_refl _, hi.2.2⟩
theorem item_len {s : Bs} (h : isItem s = true) : (tl (s.drop 1)).length + 1 ≤ s.length := by
 have h1 := tl_len (s.drop 1)
 have h2 : 1 ≤ s.length := by
  cases s with
  | nil => simp [isItem] at h
  | cons c l => simp
 rw [List.length_drop] at h1
 omega
theorem read_ok : ∀ (n : Nat) (m : YM) (i : Nat) (st : YR), YInv st → st.w + YMsz m ≤ 1000000000 → YMok m → ROk (YMsz m) st (readF n m i st)
 | 0, m, i, st, h, _, _ => ⟨null_ord, null_sb, h, rfl, Nat.le_refl _, by show V.null.size + st.w ≤ _; rw [null_size]; omega⟩
 | n + 1, .block, i, st, h, hw, _ => by
  unfold readF
  split
  ·exact ⟨null_ord, null_sb, h, rfl, Nat.le_refl _, by show V.null.size + st.w ≤ _; rw [null_size]; omega⟩
  ·rename_i j text hx
   have hln := h.ln _ (List.mem_of_getElem? hx)
   have hwx := YR.w_at hx
   simp only at hln hwx
   have key : ROk 0 st (if isItem text = true then readF n (.list []) i st else if (splitL text).isSome = true then readF n (.pairs []) i st else inlS text ⟨st.l, st.at_ + 1, st.bad⟩) := by
    split
    ·exact read_ok n (.list []) i st h (by simp only [YMsz, sizeL] at hw ⊢; omega) (fun x hx => by cases hx)
    ·split
     ·exact read_ok n (.pairs []) i st h (by simp only [YMsz, sizeM] at hw ⊢; omega) ⟨List.Pairwise.nil, fun x hx => by cases hx⟩
     ·obtain ⟨k1, k2, k3, k4, k5, k6⟩ := inl_ok (h.next hx) (s := text) (by omega)
      exact ⟨k1, k2, k3, k4, by omega, by omega⟩
   split
   rename_i v st1 hr
   rw [hr] at key
   split
   ·exact ROk.failed key.inv key.len _ _
   ·exact key
 | n + 1, .below, i, st, h, hw, _ => by
  unfold readF
  split
  ·exact ⟨null_ord, null_sb, h, rfl, Nat.le_refl _, by show V.null.size + st.w ≤ _; rw [null_size]; omega⟩
  ·rename_i j t hx
   split
   ·exact read_ok n .block j st h hw trivial
   ·exact ⟨null_ord, null_sb, h, rfl, Nat.le_refl _, by show V.null.size + st.w ≤ _; rw [null_size]; omega⟩
 | n + 1, .list out, i, st, h, hw, hm => by
  have hend : ROk (YMsz (.list out)) st (vList out, st) := by
   have h1 := vList_rd hm (by simp only [YMsz] at hw; omega)
   exact ⟨h1.1, h1.2, h, rfl, Nat.le_refl _, by rw [vList_size]; simp only [YMsz]; omega⟩
  unfold readF
  split
  ·exact hend
  ·rename_i j text hx
   have hln := h.ln _ (List.mem_of_getElem? hx)
   have hwx := YR.w_at hx
   simp only at hln hwx
   split
   ·rename_i hc
    obtain ⟨rfl, hit⟩ := hc
    have hil := item_len hit
    simp only [YMsz] at hw
    have go : ∀ v st1, ROk 0 st (v, st1) → v.size + st1.w ≤ st.w → ROk (YMsz (.list out)) st (readF n (.list (out ++ [v])) j st1) := fun v st1 k1 k2 => by
     have hsz : sizeL (out ++ [v]) = sizeL out + v.size := by rw [sizeL_append]; simp [sizeL]
     have k1i := k1.inv
     have k1l := k1.len
     have k1w := k1.w
     simp only at k1i k1l k1w
     have h3 := read_ok n (.list (out ++ [v])) j st1 k1i (by simp only [YMsz, hsz]; omega) (hm.snoc k1.ord k1.sb)
     exact ⟨h3.ord, h3.sb, h3.inv, h3.len.trans k1l, Nat.le_trans h3.w k1w, by have := h3.fit; simp only [YMsz, hsz] at this ⊢; omega⟩
    split
    ·have h2 := read_ok n .below j ⟨st.l, st.at_ + 1, st.bad⟩ (h.next hx) (by simp only [YMsz]; omega) trivial
     split
     rename_i v st1 hr
     rw [hr] at h2
     have f := h2.fit
     have w := h2.w
     simp only [YMsz] at f w
     exact go v st1 ⟨h2.ord, h2.sb, h2.inv, h2.len, by simp only; omega, by simp only; omega⟩ (by omega)
    ·have hset := YR.w_set (st := st) (y := (j + text.length - (tl (text.drop 1)).length, tl (text.drop 1))) hx
     simp only at hset
     have h2 := read_ok n .block (j + text.length - (tl (text.drop 1)).length) ⟨st.l.set st.at_ (j + text.length - (tl (text.drop 1)).length, tl (text.drop 1)), st.at_, st.bad⟩ (h.set (by simp only; omega)) (by simp only [YMsz]; omega) trivial
     split
     rename_i v st1 hr
     rw [hr] at h2
     have f := h2.fit
     have w := h2.w
     have l := h2.len
     simp only [YMsz] at f w l
     rw [List.length_set] at l
     exact go v st1 ⟨h2.ord, h2.sb, h2.inv, l, by simp only; omega, by simp only; omega⟩ (by omega)
   ·exact hend
 | n + 1, .pairs out, i, st, h, hw, hm => by
  have hend : ROk (YMsz (.pairs out)) st (vMap out, st) := by
   have h1 := vMap_rd hm (by simp only [YMsz] at hw; omega)
   exact ⟨h1.1, h1.2, h, rfl, Nat.le_refl _, by rw [vMap_size]; simp only [YMsz]; omega⟩
  unfold readF
  split
  ·exact hend
  ·rename_i j text hx
   have hln := h.ln _ (List.mem_of_getElem? hx)
   have hwx := YR.w_at hx
   simp only at hln hwx
   split
   ·rename_i hj
    subst hj
    split
    ·exact ROk.failed h rfl _ _
    ·split
     ·exact ROk.failed h rfl _ _
     ·rename_i key rest hsp
      obtain ⟨z1, z2⟩ := split_len hsp
      split
      ·exact ROk.failed h rfl _ _
      ·simp only [YMsz] at hw
       have go : ∀ v st1, ROk 0 st (v, st1) → v.size + st1.w ≤ st.w → ROk (YMsz (.pairs out)) st (readF n (.pairs (minsert (toB key) v out)) j st1) := fun v st1 k1 k2 => by
        have hsz := minsert_le (toB key) v out
        have k1i := k1.inv
        have k1l := k1.len
        have k1w := k1.w
        simp only at k1i k1l k1w
        have h3 := read_ok n (.pairs (minsert (toB key) v out)) j st1 k1i (by simp only [YMsz]; omega) (hm.put (by show key.length ≤ _; omega) k1.ord k1.sb)
        exact ⟨h3.ord, h3.sb, h3.inv, h3.len.trans k1l, Nat.le_trans h3.w k1w, by have := h3.fit; simp only [YMsz] at this ⊢; omega⟩
       have key2 : ROk 0 st (if rest = [] then readF n .below j ⟨st.l, st.at_ + 1, st.bad⟩ else inlS rest ⟨st.l, st.at_ + 1, st.bad⟩) ∧ (if rest = [] then readF n .below j ⟨st.l, st.at_ + 1, st.bad⟩ else inlS rest ⟨st.l, st.at_ + 1, st.bad⟩).1.size + (if rest = [] then readF n .below j ⟨st.l, st.at_ + 1, st.bad⟩ else inlS rest ⟨st.l, st.at_ + 1, st.bad⟩).2.w ≤ st.w := by
        split
        ·have h2 := read_ok n .below j ⟨st.l, st.at_ + 1, st.bad⟩ (h.next hx) (by simp only [YMsz]; omega) trivial
         have f := h2.fit
         have w := h2.w
         simp only [YMsz] at f w
         exact ⟨⟨h2.ord, h2.sb, h2.inv, h2.len, by omega, by omega⟩, by omega⟩
        ·obtain ⟨k1, k2, k3, k4, k5, k6⟩ := inl_ok (h.next hx) (s := rest) (by omega)
         exact ⟨⟨k1, k2, k3, k4, by omega, by omega⟩, by omega⟩
       split
       rename_i v st1 hr
       rw [hr] at key2
       exact go v st1 key2.1 key2.2
   ·exact hend
end Go.Proofs.YtgekcnpfflhpkaaGreatDoor
namespace Go.Proofs.YtgekcnpfflhpkaaGreatDoor
set_option maxRecDepth 100000
def b_yaml_opens : ACode :=
 .seq (.reg [⟨none, .mov 4 (.k (.bool false))⟩]) (.seq (.reg [⟨none, .mov 5 (.s 0)⟩, ⟨none, .mov 6 (.s 1)⟩, ⟨none, .bidx 7 (.s 5) (.s 6)⟩, ⟨none, .bin 8 .eql false (.s 7) (.k (.int .u8 34))⟩, ⟨none, .mov 9 (.s 8)⟩, ⟨some (9, false), .mov 10 (.s 0)⟩, ⟨some (9, false), .mov 11 (.s 1)⟩, ⟨some (9, false), .bidx 12 (.s 10) (.s 11)⟩, ⟨some (9, false), .bin 13 .eql false (.s 12) (.k (.int .u8 39))⟩, ⟨none, .pick 14 (.s 9) (.k (.bool true)) (.s 13)⟩, ⟨none, .mov 15 (.s 14)⟩, ⟨some (15, true), .mov 16 (.s 1)⟩, ⟨some (15, true), .bin 17 .eql false (.s 16) (.k (.int .i64 0))⟩, ⟨some (15, true), .mov 18 (.s 17)⟩, ⟨some (18, false), .mov 19 (.s 0)⟩, ⟨some (18, false), .mov 20 (.s 1)⟩, ⟨some (18, false), .bin 21 .sub false (.s 20) (.k (.int .i64 1))⟩, ⟨some (18, false), .bidx 22 (.s 19) (.s 21)⟩, ⟨some (18, false), .call (some 23) (.k (.fn 113 [])) [.k (.str ⟨#[32, 91, 123, 44]⟩), .s 22]⟩, ⟨some (18, false), .bin 24 .geq false (.s 23) (.k (.int .i64 0))⟩, ⟨some (15, true), .pick 25 (.s 18) (.k (.bool true)) (.s 24)⟩, ⟨none, .pick 26 (.s 15) (.s 25) (.k (.bool false))⟩, ⟨none, .mov 4 (.s 26)⟩]) .ret)
def a_yaml_opens : AFn := ⟨2, 27, b_yaml_opens, [.tmp 4]⟩
theorem a_yaml_opens_ok : fnAF Tryz.prog [2000024, 2000091, 2000050, 2000051, 2000023, 2000052, 2000021] Tryz.f83 = some a_yaml_opens := by kernel_rfl
theorem a_yaml_opens_cb : callable Tryz.prog 83 = true := by kernel_rfl
def b_yaml_bare : ACode :=
 .seq (.reg [⟨none, .mov 2 (.k (.str ⟨#[]⟩))⟩]) (.seq (.seq (.reg [⟨none, .mov 3 (.k (.int .i64 0))⟩]) (.block 0 (.loop (.seq (.seq (.reg [⟨none, .mov 7 (.s 3)⟩, ⟨none, .mov 8 (.s 0)⟩, ⟨none, .len 9 true (.s 8)⟩, ⟨none, .bin 10 .lss false (.s 7) (.s 9)⟩]) (.cond (.s 10) .skip (.exit 0))) (.seq (.block 1 (.block 2 (.seq (.reg [⟨none, .mov 14 (.s 0)⟩, ⟨none, .mov 15 (.s 3)⟩, ⟨none, .bidx 16 (.s 14) (.s 15)⟩, ⟨none, .bin 17 .eql false (.s 16) (.k (.int .u8 35))⟩, ⟨none, .mov 18 (.s 17)⟩, ⟨some (18, true), .mov 19 (.s 3)⟩, ⟨some (18, true), .bin 20 .eql false (.s 19) (.k (.int .i64 0))⟩, ⟨some (18, true), .mov 21 (.s 20)⟩, ⟨some (21, false), .mov 22 (.s 0)⟩, ⟨some (21, false), .mov 23 (.s 3)⟩, ⟨some (21, false), .bin 24 .sub false (.s 23) (.k (.int .i64 1))⟩, ⟨some (21, false), .bidx 25 (.s 22) (.s 24)⟩, ⟨some (21, false), .bin 26 .eql false (.s 25) (.k (.int .u8 32))⟩, ⟨some (18, true), .pick 27 (.s 21) (.k (.bool true)) (.s 26)⟩, ⟨none, .pick 28 (.s 18) (.s 27) (.k (.bool false))⟩, ⟨none, .mov 13 (.s 28)⟩]) (.cond (.s 13) (.seq (.reg [⟨none, .mov 29 (.s 0)⟩, ⟨none, .mov 30 (.s 3)⟩, ⟨none, .sub 31 true 0 (.s 29) none (some (.s 30))⟩, ⟨none, .mov 2 (.s 31)⟩]) .ret) (.seq (.reg [⟨none, .mov 33 (.s 0)⟩, ⟨none, .mov 34 (.s 3)⟩, ⟨none, .call (some 35) (.k (.fn 83 [])) [.s 33, .s 34]⟩, ⟨none, .mov 32 (.s 35)⟩]) (.cond (.s 32) (.seq (.reg [⟨none, .mov 37 (.s 0)⟩, ⟨none, .mov 38 (.s 3)⟩, ⟨none, .sub 39 true 0 (.s 37) (some (.s 38)) none⟩, ⟨none, .call (some 40) (.k (.fn 84 [])) [.s 39]⟩, ⟨none, .mov 36 (.s 40)⟩, ⟨none, .ext 41 0 (.s 36)⟩, ⟨none, .ext 42 1 (.s 36)⟩, ⟨none, .ext 43 2 (.s 36)⟩, ⟨none, .mov 4 (.s 41)⟩, ⟨none, .mov 5 (.s 42)⟩, ⟨none, .mov 6 (.s 43)⟩]) (.seq (.seq (.reg [⟨none, .mov 44 (.s 6)⟩, ⟨none, .bin 45 .neq false (.s 44) (.k (.int .i64 0))⟩]) (.cond (.s 45) (.seq (.reg [⟨none, .mov 46 (.s 0)⟩, ⟨none, .mov 2 (.s 46)⟩]) .ret) .skip)) (.reg [⟨none, .mov 47 (.s 0)⟩, ⟨none, .len 48 true (.s 47)⟩, ⟨none, .mov 49 (.s 5)⟩, ⟨none, .len 50 true (.s 49)⟩, ⟨none, .bin 51 .sub false (.s 48) (.s 50)⟩, ⟨none, .bin 52 .sub false (.s 51) (.k (.int .i64 1))⟩, ⟨none, .mov 3 (.s 52)⟩]))) .skip)))))) (.reg [⟨none, .mov 11 (.s 3)⟩, ⟨none, .bin 12 .add false (.s 11) (.k (.int .i64 1))⟩, ⟨none, .mov 3 (.s 12)⟩])))))) (.seq (.reg [⟨none, .mov 53 (.s 0)⟩, ⟨none, .mov 2 (.s 53)⟩]) .ret))
def a_yaml_bare : AFn := ⟨1, 54, b_yaml_bare, [.tmp 2]⟩
theorem a_yaml_bare_ok : fnAF Tryz.prog [2000024, 2000091, 2000050, 2000051, 2000023, 2000052, 2000021] Tryz.f46 = some a_yaml_bare := by kernel_rfl
theorem a_yaml_bare_cb : callable Tryz.prog 46 = true := by kernel_rfl
def b_yaml_item : ACode :=
 .seq (.reg [⟨none, .mov 2 (.k (.bool false))⟩]) (.seq (.reg [⟨none, .mov 3 (.s 0)⟩, ⟨none, .bin 4 .eql false (.s 3) (.k (.str ⟨#[45]⟩))⟩, ⟨none, .mov 5 (.s 4)⟩, ⟨some (5, false), .mov 6 (.s 0)⟩, ⟨some (5, false), .call (some 7) (.k (.fn 34 [])) [.s 6, .k (.str ⟨#[45, 32]⟩)]⟩, ⟨none, .pick 8 (.s 5) (.k (.bool true)) (.s 7)⟩, ⟨none, .mov 2 (.s 8)⟩]) .ret)
def a_yaml_item : AFn := ⟨1, 9, b_yaml_item, [.tmp 2]⟩
theorem a_yaml_item_ok : fnAF Tryz.prog [2000024, 2000091, 2000050, 2000051, 2000023, 2000052, 2000021] Tryz.f49 = some a_yaml_item := by kernel_rfl
theorem a_yaml_item_cb : callable Tryz.prog 49 = true := by kernel_rfl
def b_yaml_odd : ACode :=
 .seq (.reg [⟨none, .mov 2 (.k (.bool false))⟩]) (.seq (.reg [⟨none, .mov 3 (.s 0)⟩, ⟨none, .bin 4 .neq false (.s 3) (.k (.str ⟨#[]⟩))⟩, ⟨none, .mov 5 (.s 4)⟩, ⟨some (5, true), .mov 6 (.s 0)⟩, ⟨some (5, true), .bidx 7 (.s 6) (.k (.int .i64 0))⟩, ⟨some (5, true), .call (some 8) (.k (.fn 113 [])) [.k (.str ⟨#[91, 93, 123, 125, 44, 38, 42, 33, 124, 62, 37, 64, 35, 63, 58, 34, 39, 96]⟩), .s 7]⟩, ⟨some (5, true), .bin 9 .geq false (.s 8) (.k (.int .i64 0))⟩, ⟨none, .pick 10 (.s 5) (.s 9) (.k (.bool false))⟩, ⟨none, .mov 2 (.s 10)⟩]) .ret)
def a_yaml_odd : AFn := ⟨1, 11, b_yaml_odd, [.tmp 2]⟩
theorem a_yaml_odd_ok : fnAF Tryz.prog [2000024, 2000091, 2000050, 2000051, 2000023, 2000052, 2000021] Tryz.f89 = some a_yaml_odd := by kernel_rfl
theorem a_yaml_odd_cb : callable Tryz.prog 89 = true := by kernel_rfl
def b_yaml_split : ACode :=
 .seq (.reg [⟨none, .mov 2 (.k (.str ⟨#[]⟩))⟩, ⟨none, .mov 3 (.k (.str ⟨#[]⟩))⟩, ⟨none, .mov 4 (.k (.bool false))⟩]) (.seq (.seq (.reg [⟨none, .mov 9 (.s 0)⟩, ⟨none, .bin 10 .neq false (.s 9) (.k (.str ⟨#[]⟩))⟩, ⟨none, .mov 11 (.s 10)⟩, ⟨some (11, true), .mov 12 (.s 0)⟩, ⟨some (11, true), .bidx 13 (.s 12) (.k (.int .i64 0))⟩, ⟨some (11, true), .bin 14 .eql false (.s 13) (.k (.int .u8 34))⟩, ⟨some (11, true), .mov 15 (.s 14)⟩, ⟨some (15, false), .mov 16 (.s 0)⟩, ⟨some (15, false), .bidx 17 (.s 16) (.k (.int .i64 0))⟩, ⟨some (15, false), .bin 18 .eql false (.s 17) (.k (.int .u8 39))⟩, ⟨some (11, true), .pick 19 (.s 15) (.k (.bool true)) (.s 18)⟩, ⟨none, .pick 20 (.s 11) (.s 19) (.k (.bool false))⟩]) (.cond (.s 20) (.seq (.reg [⟨none, .mov 22 (.s 0)⟩, ⟨none, .call (some 23) (.k (.fn 84 [])) [.s 22]⟩, ⟨none, .mov 21 (.s 23)⟩, ⟨none, .ext 24 0 (.s 21)⟩, ⟨none, .ext 25 1 (.s 21)⟩, ⟨none, .ext 26 2 (.s 21)⟩, ⟨none, .mov 5 (.s 24)⟩, ⟨none, .mov 6 (.s 25)⟩, ⟨none, .mov 7 (.s 26)⟩]) (.seq (.seq (.reg [⟨none, .mov 27 (.s 7)⟩, ⟨none, .bin 28 .neq false (.s 27) (.k (.int .i64 0))⟩, ⟨none, .mov 29 (.s 28)⟩, ⟨some (29, false), .mov 30 (.s 6)⟩, ⟨some (29, false), .call (some 31) (.k (.fn 34 [])) [.s 30, .k (.str ⟨#[58]⟩)]⟩, ⟨some (29, false), .un 32 .not (.s 31)⟩, ⟨none, .pick 33 (.s 29) (.k (.bool true)) (.s 32)⟩, ⟨none, .mov 34 (.s 33)⟩, ⟨some (34, false), .mov 35 (.s 6)⟩, ⟨some (34, false), .len 36 true (.s 35)⟩, ⟨some (34, false), .bin 37 .gtr false (.s 36) (.k (.int .i64 1))⟩, ⟨some (34, false), .mov 38 (.s 37)⟩, ⟨some (38, true), .mov 39 (.s 6)⟩, ⟨some (38, true), .bidx 40 (.s 39) (.k (.int .i64 1))⟩, ⟨some (38, true), .bin 41 .neq false (.s 40) (.k (.int .u8 32))⟩, ⟨some (34, false), .pick 42 (.s 38) (.s 41) (.k (.bool false))⟩, ⟨none, .pick 43 (.s 34) (.k (.bool true)) (.s 42)⟩]) (.cond (.s 43) (.seq (.reg [⟨none, .mov 2 (.k (.str ⟨#[]⟩))⟩, ⟨none, .mov 3 (.k (.str ⟨#[]⟩))⟩, ⟨none, .mov 4 (.k (.bool false))⟩]) .ret) .skip)) (.seq (.reg [⟨none, .mov 44 (.s 5)⟩, ⟨none, .mov 45 (.s 6)⟩, ⟨none, .sub 46 true 0 (.s 45) (some (.k (.int .i64 1))) none⟩, ⟨none, .call (some 47) (.k (.fn 47 [])) [.s 46, .k (.str ⟨#[32]⟩)]⟩, ⟨none, .mov 2 (.s 44)⟩, ⟨none, .mov 3 (.s 47)⟩, ⟨none, .mov 4 (.k (.bool true))⟩]) .ret))) .skip)) (.seq (.reg [⟨none, .mov 48 (.s 0)⟩, ⟨none, .call (some 49) (.k (.fn 67 [])) [.s 48, .k (.str ⟨#[58, 32]⟩)]⟩, ⟨none, .mov 8 (.s 49)⟩]) (.seq (.seq (.reg [⟨none, .mov 50 (.s 8)⟩, ⟨none, .bin 51 .lss false (.s 50) (.k (.int .i64 0))⟩]) (.cond (.s 51) (.seq (.seq (.reg [⟨none, .mov 52 (.s 0)⟩, ⟨none, .call (some 53) (.k (.fn 88 [])) [.s 52, .k (.str ⟨#[58]⟩)]⟩, ⟨none, .un 54 .not (.s 53)⟩]) (.cond (.s 54) (.seq (.reg [⟨none, .mov 2 (.k (.str ⟨#[]⟩))⟩, ⟨none, .mov 3 (.k (.str ⟨#[]⟩))⟩, ⟨none, .mov 4 (.k (.bool false))⟩]) .ret) .skip)) (.reg [⟨none, .mov 55 (.s 0)⟩, ⟨none, .len 56 true (.s 55)⟩, ⟨none, .bin 57 .sub false (.s 56) (.k (.int .i64 1))⟩, ⟨none, .mov 8 (.s 57)⟩])) .skip)) (.seq (.reg [⟨none, .mov 58 (.s 0)⟩, ⟨none, .mov 59 (.s 8)⟩, ⟨none, .sub 60 true 0 (.s 58) none (some (.s 59))⟩, ⟨none, .call (some 61) (.k (.fn 18 [])) [.s 60, .k (.str ⟨#[32]⟩)]⟩, ⟨none, .mov 2 (.s 61)⟩]) (.seq (.seq (.reg [⟨none, .mov 62 (.s 2)⟩, ⟨none, .bin 63 .eql false (.s 62) (.k (.str ⟨#[]⟩))⟩, ⟨none, .mov 64 (.s 63)⟩, ⟨some (64, false), .mov 65 (.s 2)⟩, ⟨some (64, false), .call (some 66) (.k (.fn 89 [])) [.s 65]⟩, ⟨none, .pick 67 (.s 64) (.k (.bool true)) (.s 66)⟩]) (.cond (.s 67) (.seq (.reg [⟨none, .mov 2 (.k (.str ⟨#[]⟩))⟩, ⟨none, .mov 3 (.k (.str ⟨#[]⟩))⟩, ⟨none, .mov 4 (.k (.bool false))⟩]) .ret) .skip)) (.seq (.reg [⟨none, .mov 68 (.s 2)⟩, ⟨none, .mov 69 (.s 0)⟩, ⟨none, .mov 70 (.s 8)⟩, ⟨none, .bin 71 .add false (.s 70) (.k (.int .i64 1))⟩, ⟨none, .sub 72 true 0 (.s 69) (some (.s 71)) none⟩, ⟨none, .call (some 73) (.k (.fn 47 [])) [.s 72, .k (.str ⟨#[32]⟩)]⟩, ⟨none, .mov 2 (.s 68)⟩, ⟨none, .mov 3 (.s 73)⟩, ⟨none, .mov 4 (.k (.bool true))⟩]) .ret))))))
def a_yaml_split : AFn := ⟨1, 74, b_yaml_split, [.tmp 2, .tmp 3, .tmp 4]⟩
theorem a_yaml_split_ok : fnAF Tryz.prog [2000024, 2000091, 2000050, 2000051, 2000023, 2000052, 2000021] Tryz.f48 = some a_yaml_split := by kernel_rfl
theorem a_yaml_split_cb : callable Tryz.prog 48 = true := by kernel_rfl
def b_yaml_one : ACode :=
 .seq (.reg [⟨none, .alloc 4 [.int .i64 0, .bool false, .int .i64 0, .str ⟨#[]⟩, .lst .nil 6 [], .lst .nil 7 []]⟩, ⟨none, .mov 5 (.k (.str ⟨#[]⟩))⟩, ⟨none, .mov 6 (.k (.int .i64 0))⟩]) (.seq (.reg [⟨none, .mov 14 (.s 0)⟩, ⟨none, .call (some 15) (.k (.fn 47 [])) [.s 14, .k (.str ⟨#[32]⟩)]⟩, ⟨none, .mov 0 (.s 15)⟩]) (.seq (.block 0 (.seq (.reg [⟨none, .mov 17 (.s 0)⟩, ⟨none, .call (some 18) (.k (.fn 34 [])) [.s 17, .k (.str ⟨#[91]⟩)]⟩, ⟨none, .mov 16 (.s 18)⟩]) (.cond (.s 16) (.seq (.reg [⟨none, .mov 19 (.s 0)⟩, ⟨none, .sub 20 true 0 (.s 19) (some (.k (.int .i64 1))) none⟩, ⟨none, .call (some 21) (.k (.fn 122 [])) [.s 20]⟩, ⟨none, .ext 22 0 (.s 21)⟩, ⟨none, .ext 23 1 (.s 21)⟩, ⟨none, .ext 24 2 (.s 21)⟩, ⟨none, .st 6 (.s 4) (.s 22)⟩, ⟨none, .mov 5 (.s 23)⟩, ⟨none, .mov 6 (.s 24)⟩]) .ret) (.seq (.reg [⟨none, .mov 26 (.s 0)⟩, ⟨none, .call (some 27) (.k (.fn 34 [])) [.s 26, .k (.str ⟨#[123]⟩)]⟩, ⟨none, .mov 25 (.s 27)⟩]) (.cond (.s 25) (.seq (.reg [⟨none, .mov 28 (.s 0)⟩, ⟨none, .sub 29 true 0 (.s 28) (some (.k (.int .i64 1))) none⟩, ⟨none, .call (some 30) (.k (.fn 123 [])) [.s 29]⟩, ⟨none, .ext 31 0 (.s 30)⟩, ⟨none, .ext 32 1 (.s 30)⟩, ⟨none, .ext 33 2 (.s 30)⟩, ⟨none, .st 6 (.s 4) (.s 31)⟩, ⟨none, .mov 5 (.s 32)⟩, ⟨none, .mov 6 (.s 33)⟩]) .ret) (.seq (.reg [⟨none, .mov 35 (.s 0)⟩, ⟨none, .bin 36 .neq false (.s 35) (.k (.str ⟨#[]⟩))⟩, ⟨none, .mov 37 (.s 36)⟩, ⟨some (37, true), .mov 38 (.s 0)⟩, ⟨some (37, true), .bidx 39 (.s 38) (.k (.int .i64 0))⟩, ⟨some (37, true), .bin 40 .eql false (.s 39) (.k (.int .u8 34))⟩, ⟨some (37, true), .mov 41 (.s 40)⟩, ⟨some (41, false), .mov 42 (.s 0)⟩, ⟨some (41, false), .bidx 43 (.s 42) (.k (.int .i64 0))⟩, ⟨some (41, false), .bin 44 .eql false (.s 43) (.k (.int .u8 39))⟩, ⟨some (37, true), .pick 45 (.s 41) (.k (.bool true)) (.s 44)⟩, ⟨none, .pick 46 (.s 37) (.s 45) (.k (.bool false))⟩, ⟨none, .mov 34 (.s 46)⟩]) (.cond (.s 34) (.seq (.reg [⟨none, .mov 48 (.s 0)⟩, ⟨none, .call (some 49) (.k (.fn 84 [])) [.s 48]⟩, ⟨none, .mov 47 (.s 49)⟩, ⟨none, .ext 50 0 (.s 47)⟩, ⟨none, .ext 51 1 (.s 47)⟩, ⟨none, .ext 52 2 (.s 47)⟩, ⟨none, .mov 7 (.s 50)⟩, ⟨none, .mov 8 (.s 51)⟩, ⟨none, .mov 9 (.s 52)⟩]) (.seq (.reg [⟨none, .mov 53 (.s 7)⟩, ⟨none, .call (some 54) (.k (.fn 82 [])) [.s 53]⟩, ⟨none, .mov 55 (.s 8)⟩, ⟨none, .call (some 56) (.k (.fn 47 [])) [.s 55, .k (.str ⟨#[32]⟩)]⟩, ⟨none, .mov 57 (.s 9)⟩, ⟨none, .st 6 (.s 4) (.s 54)⟩, ⟨none, .mov 5 (.s 56)⟩, ⟨none, .mov 6 (.s 57)⟩]) .ret)) .skip))))))) (.seq (.reg [⟨none, .mov 58 (.s 0)⟩, ⟨none, .len 59 true (.s 58)⟩, ⟨none, .mov 10 (.s 59)⟩]) (.seq (.seq (.reg [⟨none, .mov 60 (.s 1)⟩, ⟨none, .bin 61 .neq false (.s 60) (.k (.str ⟨#[]⟩))⟩]) (.cond (.s 61) (.seq (.reg [⟨none, .mov 10 (.k (.int .i64 0))⟩]) (.block 1 (.loop (.seq (.seq (.reg [⟨none, .mov 62 (.s 10)⟩, ⟨none, .mov 63 (.s 0)⟩, ⟨none, .len 64 true (.s 63)⟩, ⟨none, .bin 65 .lss false (.s 62) (.s 64)⟩, ⟨none, .mov 66 (.s 65)⟩, ⟨some (66, true), .mov 67 (.s 1)⟩, ⟨some (66, true), .mov 68 (.s 0)⟩, ⟨some (66, true), .mov 69 (.s 10)⟩, ⟨some (66, true), .bidx 70 (.s 68) (.s 69)⟩, ⟨some (66, true), .call (some 71) (.k (.fn 113 [])) [.s 67, .s 70]⟩, ⟨some (66, true), .bin 72 .lss false (.s 71) (.k (.int .i64 0))⟩, ⟨none, .pick 73 (.s 66) (.s 72) (.k (.bool false))⟩]) (.cond (.s 73) .skip (.exit 1))) (.block 2 (.reg [⟨none, .mov 74 (.s 10)⟩, ⟨none, .bin 75 .add false (.s 74) (.k (.int .i64 1))⟩, ⟨none, .mov 10 (.s 75)⟩])))))) .skip)) (.seq (.reg [⟨none, .mov 76 (.s 0)⟩, ⟨none, .mov 77 (.s 10)⟩, ⟨none, .sub 78 true 0 (.s 76) none (some (.s 77))⟩, ⟨none, .call (some 79) (.k (.fn 18 [])) [.s 78, .k (.str ⟨#[32]⟩)]⟩, ⟨none, .mov 11 (.s 79)⟩]) (.seq (.seq (.reg [⟨none, .mov 80 (.s 11)⟩, ⟨none, .bin 81 .eql false (.s 80) (.k (.str ⟨#[]⟩))⟩, ⟨none, .mov 82 (.s 81)⟩, ⟨some (82, false), .mov 83 (.s 11)⟩, ⟨some (82, false), .call (some 84) (.k (.fn 89 [])) [.s 83]⟩, ⟨none, .pick 85 (.s 82) (.k (.bool true)) (.s 84)⟩, ⟨none, .mov 86 (.s 85)⟩, ⟨some (86, false), .mov 87 (.s 11)⟩, ⟨some (86, false), .call (some 88) (.k (.fn 124 [])) [.s 87, .k (.str ⟨#[58, 32]⟩)]⟩, ⟨none, .pick 89 (.s 86) (.k (.bool true)) (.s 88)⟩, ⟨none, .mov 90 (.s 89)⟩, ⟨some (90, false), .mov 91 (.s 11)⟩, ⟨some (90, false), .call (some 92) (.k (.fn 88 [])) [.s 91, .k (.str ⟨#[58]⟩)]⟩, ⟨none, .pick 93 (.s 90) (.k (.bool true)) (.s 92)⟩]) (.cond (.s 93) (.seq (.reg [⟨none, .build 94 [.int .i64 0, .bool false, .int .i64 0, .str ⟨#[]⟩, .lst .nil 6 [], .lst .nil 7 []] []⟩, ⟨none, .st 6 (.s 4) (.s 94)⟩, ⟨none, .mov 5 (.k (.str ⟨#[]⟩))⟩, ⟨none, .mov 6 (.k (.int .i64 10))⟩]) .ret) .skip)) (.seq (.reg [⟨none, .mov 96 (.s 11)⟩, ⟨none, .call (some 97) (.k (.fn 125 [])) [.s 96]⟩, ⟨none, .mov 95 (.s 97)⟩, ⟨none, .ext 98 0 (.s 95)⟩, ⟨none, .ext 99 1 (.s 95)⟩, ⟨none, .alloc 12 [.int .i64 0, .bool false, .int .i64 0, .str ⟨#[]⟩, .lst .nil 6 [], .lst .nil 7 []]⟩, ⟨none, .st 6 (.s 12) (.s 98)⟩, ⟨none, .mov 13 (.s 99)⟩]) (.seq (.reg [⟨none, .ld 100 6 true (.s 12)⟩, ⟨none, .mov 101 (.s 0)⟩, ⟨none, .mov 102 (.s 10)⟩, ⟨none, .sub 103 true 0 (.s 101) (some (.s 102)) none⟩, ⟨none, .mov 104 (.s 13)⟩, ⟨none, .st 6 (.s 4) (.s 100)⟩, ⟨none, .mov 5 (.s 103)⟩, ⟨none, .mov 6 (.s 104)⟩]) .ret))))))))
def a_yaml_one : AFn := ⟨2, 105, b_yaml_one, [.cell 4 6 true, .tmp 5, .tmp 6]⟩
theorem a_yaml_one_ok : fnAF Tryz.prog [2000024, 2000091, 2000050, 2000051, 2000023, 2000052, 2000021] Tryz.f95 = some a_yaml_one := by kernel_rfl
theorem a_yaml_one_cb : callable Tryz.prog 95 = true := by kernel_rfl
def b_yaml_flow : ACode :=
 .seq (.reg [⟨none, .alloc 2 [.int .i64 0, .bool false, .int .i64 0, .str ⟨#[]⟩, .lst .nil 6 [], .lst .nil 7 []]⟩, ⟨none, .mov 3 (.k (.str ⟨#[]⟩))⟩, ⟨none, .mov 4 (.k (.int .i64 0))⟩]) (.seq (.reg [⟨none, .call (some 9) (.k (.fn 90 [])) [.k (.lst .nil 6 [])]⟩, ⟨none, .alloc 5 [.int .i64 0, .bool false, .int .i64 0, .str ⟨#[]⟩, .lst .nil 6 [], .lst .nil 7 []]⟩, ⟨none, .st 6 (.s 5) (.s 9)⟩]) (.seq (.reg [⟨none, .mov 10 (.s 0)⟩, ⟨none, .call (some 11) (.k (.fn 47 [])) [.s 10, .k (.str ⟨#[32]⟩)]⟩, ⟨none, .mov 0 (.s 11)⟩]) (.seq (.seq (.reg [⟨none, .mov 12 (.s 0)⟩, ⟨none, .call (some 13) (.k (.fn 34 [])) [.s 12, .k (.str ⟨#[93]⟩)]⟩]) (.cond (.s 13) (.seq (.reg [⟨none, .ld 14 6 true (.s 5)⟩, ⟨none, .mov 15 (.s 0)⟩, ⟨none, .sub 16 true 0 (.s 15) (some (.k (.int .i64 1))) none⟩, ⟨none, .call (some 17) (.k (.fn 47 [])) [.s 16, .k (.str ⟨#[32]⟩)]⟩, ⟨none, .st 6 (.s 2) (.s 14)⟩, ⟨none, .mov 3 (.s 17)⟩, ⟨none, .mov 4 (.k (.int .i64 0))⟩]) .ret) .skip)) (.block 0 (.loop (.block 1 (.seq (.reg [⟨none, .mov 19 (.s 0)⟩, ⟨none, .call (some 20) (.k (.fn 95 [])) [.s 19, .k (.str ⟨#[44, 93]⟩)]⟩, ⟨none, .mov 18 (.s 20)⟩, ⟨none, .ext 21 0 (.s 18)⟩, ⟨none, .ext 22 1 (.s 18)⟩, ⟨none, .ext 23 2 (.s 18)⟩, ⟨none, .alloc 6 [.int .i64 0, .bool false, .int .i64 0, .str ⟨#[]⟩, .lst .nil 6 [], .lst .nil 7 []]⟩, ⟨none, .st 6 (.s 6) (.s 21)⟩, ⟨none, .mov 7 (.s 22)⟩, ⟨none, .mov 8 (.s 23)⟩]) (.seq (.seq (.reg [⟨none, .mov 24 (.s 8)⟩, ⟨none, .bin 25 .neq false (.s 24) (.k (.int .i64 0))⟩]) (.cond (.s 25) (.seq (.reg [⟨none, .build 26 [.int .i64 0, .bool false, .int .i64 0, .str ⟨#[]⟩, .lst .nil 6 [], .lst .nil 7 []] []⟩, ⟨none, .mov 27 (.s 8)⟩, ⟨none, .st 6 (.s 2) (.s 26)⟩, ⟨none, .mov 3 (.k (.str ⟨#[]⟩))⟩, ⟨none, .mov 4 (.s 27)⟩]) .ret) .skip)) (.seq (.reg [⟨none, .off 28 4 (.s 5)⟩, ⟨none, .ld 29 1 false (.s 28)⟩, ⟨none, .ld 30 6 true (.s 6)⟩, ⟨none, .bsl 31 1 6 [.int .i64 0, .bool false, .int .i64 0, .str ⟨#[]⟩, .lst .nil 6 [], .lst .nil 7 []] [(0, 6, .s 30)]⟩, ⟨none, .app 32 6 88 (.s 29) (.s 31)⟩, ⟨none, .off 33 4 (.s 5)⟩, ⟨none, .st 1 (.s 33) (.s 32)⟩]) (.seq (.block 2 (.seq (.reg [⟨none, .mov 35 (.s 7)⟩, ⟨none, .call (some 36) (.k (.fn 34 [])) [.s 35, .k (.str ⟨#[93]⟩)]⟩, ⟨none, .mov 34 (.s 36)⟩]) (.cond (.s 34) (.seq (.reg [⟨none, .ld 37 6 true (.s 5)⟩, ⟨none, .mov 38 (.s 7)⟩, ⟨none, .sub 39 true 0 (.s 38) (some (.k (.int .i64 1))) none⟩, ⟨none, .call (some 40) (.k (.fn 47 [])) [.s 39, .k (.str ⟨#[32]⟩)]⟩, ⟨none, .st 6 (.s 2) (.s 37)⟩, ⟨none, .mov 3 (.s 40)⟩, ⟨none, .mov 4 (.k (.int .i64 0))⟩]) .ret) (.seq (.reg [⟨none, .mov 42 (.s 7)⟩, ⟨none, .call (some 43) (.k (.fn 34 [])) [.s 42, .k (.str ⟨#[44]⟩)]⟩, ⟨none, .un 44 .not (.s 43)⟩, ⟨none, .mov 41 (.s 44)⟩]) (.cond (.s 41) (.seq (.reg [⟨none, .build 45 [.int .i64 0, .bool false, .int .i64 0, .str ⟨#[]⟩, .lst .nil 6 [], .lst .nil 7 []] []⟩, ⟨none, .st 6 (.s 2) (.s 45)⟩, ⟨none, .mov 3 (.k (.str ⟨#[]⟩))⟩, ⟨none, .mov 4 (.k (.int .i64 10))⟩]) .ret) .skip))))) (.reg [⟨none, .mov 46 (.s 7)⟩, ⟨none, .sub 47 true 0 (.s 46) (some (.k (.int .i64 1))) none⟩, ⟨none, .mov 0 (.s 47)⟩])))))))))))
def a_yaml_flow : AFn := ⟨1, 48, b_yaml_flow, [.cell 2 6 true, .tmp 3, .tmp 4]⟩
theorem a_yaml_flow_ok : fnAF Tryz.prog [2000024, 2000091, 2000050, 2000051, 2000023, 2000052, 2000021] Tryz.f122 = some a_yaml_flow := by kernel_rfl
theorem a_yaml_flow_cb : callable Tryz.prog 122 = true := by kernel_rfl
def b_yaml_braces : ACode :=
 .seq (.reg [⟨none, .alloc 2 [.int .i64 0, .bool false, .int .i64 0, .str ⟨#[]⟩, .lst .nil 6 [], .lst .nil 7 []]⟩, ⟨none, .mov 3 (.k (.str ⟨#[]⟩))⟩, ⟨none, .mov 4 (.k (.int .i64 0))⟩]) (.seq (.reg [⟨none, .call (some 15) (.k (.fn 92 [])) [.k (.lst .nil 7 [])]⟩, ⟨none, .alloc 5 [.int .i64 0, .bool false, .int .i64 0, .str ⟨#[]⟩, .lst .nil 6 [], .lst .nil 7 []]⟩, ⟨none, .st 6 (.s 5) (.s 15)⟩]) (.seq (.reg [⟨none, .mov 16 (.s 0)⟩, ⟨none, .call (some 17) (.k (.fn 47 [])) [.s 16, .k (.str ⟨#[32]⟩)]⟩, ⟨none, .mov 0 (.s 17)⟩]) (.seq (.seq (.reg [⟨none, .mov 18 (.s 0)⟩, ⟨none, .call (some 19) (.k (.fn 34 [])) [.s 18, .k (.str ⟨#[125]⟩)]⟩]) (.cond (.s 19) (.seq (.reg [⟨none, .ld 20 6 true (.s 5)⟩, ⟨none, .mov 21 (.s 0)⟩, ⟨none, .sub 22 true 0 (.s 21) (some (.k (.int .i64 1))) none⟩, ⟨none, .call (some 23) (.k (.fn 47 [])) [.s 22, .k (.str ⟨#[32]⟩)]⟩, ⟨none, .st 6 (.s 2) (.s 20)⟩, ⟨none, .mov 3 (.s 23)⟩, ⟨none, .mov 4 (.k (.int .i64 0))⟩]) .ret) .skip)) (.block 0 (.loop (.block 1 (.seq (.reg [⟨none, .mov 24 (.s 0)⟩, ⟨none, .call (some 25) (.k (.fn 47 [])) [.s 24, .k (.str ⟨#[32]⟩)]⟩, ⟨none, .mov 0 (.s 25)⟩]) (.seq (.reg [⟨none, .mov 27 (.s 0)⟩, ⟨none, .call (some 28) (.k (.fn 140 [])) [.s 27, .k (.str ⟨#[58]⟩)]⟩, ⟨none, .mov 26 (.s 28)⟩, ⟨none, .ext 29 0 (.s 26)⟩, ⟨none, .ext 30 1 (.s 26)⟩, ⟨none, .ext 31 2 (.s 26)⟩, ⟨none, .mov 6 (.s 29)⟩, ⟨none, .mov 7 (.s 30)⟩, ⟨none, .mov 8 (.s 31)⟩]) (.seq (.reg [⟨none, .mov 32 (.s 6)⟩, ⟨none, .call (some 33) (.k (.fn 18 [])) [.s 32, .k (.str ⟨#[32]⟩)]⟩, ⟨none, .mov 6 (.s 33)⟩]) (.seq (.seq (.reg [⟨none, .mov 34 (.s 0)⟩, ⟨none, .bin 35 .neq false (.s 34) (.k (.str ⟨#[]⟩))⟩, ⟨none, .mov 36 (.s 35)⟩, ⟨some (36, true), .mov 37 (.s 0)⟩, ⟨some (36, true), .bidx 38 (.s 37) (.k (.int .i64 0))⟩, ⟨some (36, true), .bin 39 .eql false (.s 38) (.k (.int .u8 34))⟩, ⟨some (36, true), .mov 40 (.s 39)⟩, ⟨some (40, false), .mov 41 (.s 0)⟩, ⟨some (40, false), .bidx 42 (.s 41) (.k (.int .i64 0))⟩, ⟨some (40, false), .bin 43 .eql false (.s 42) (.k (.int .u8 39))⟩, ⟨some (36, true), .pick 44 (.s 40) (.k (.bool true)) (.s 43)⟩, ⟨none, .pick 45 (.s 36) (.s 44) (.k (.bool false))⟩]) (.cond (.s 45) (.seq (.reg [⟨none, .mov 9 (.k (.int .i64 0))⟩]) (.seq (.seq (.reg [⟨none, .mov 47 (.s 0)⟩, ⟨none, .call (some 48) (.k (.fn 84 [])) [.s 47]⟩, ⟨none, .mov 46 (.s 48)⟩, ⟨none, .ext 49 0 (.s 46)⟩, ⟨none, .ext 50 1 (.s 46)⟩, ⟨none, .ext 51 2 (.s 46)⟩, ⟨none, .mov 6 (.s 49)⟩, ⟨none, .mov 7 (.s 50)⟩, ⟨none, .mov 9 (.s 51)⟩]) (.seq (.reg [⟨none, .mov 52 (.s 9)⟩, ⟨none, .bin 53 .neq false (.s 52) (.k (.int .i64 0))⟩]) (.cond (.s 53) (.seq (.reg [⟨none, .build 54 [.int .i64 0, .bool false, .int .i64 0, .str ⟨#[]⟩, .lst .nil 6 [], .lst .nil 7 []] []⟩, ⟨none, .mov 55 (.s 9)⟩, ⟨none, .st 6 (.s 2) (.s 54)⟩, ⟨none, .mov 3 (.k (.str ⟨#[]⟩))⟩, ⟨none, .mov 4 (.s 55)⟩]) .ret) .skip))) (.reg [⟨none, .mov 57 (.s 7)⟩, ⟨none, .call (some 58) (.k (.fn 141 [])) [.s 57, .k (.str ⟨#[58]⟩)]⟩, ⟨none, .mov 56 (.s 58)⟩, ⟨none, .ext 59 0 (.s 56)⟩, ⟨none, .ext 60 1 (.s 56)⟩, ⟨none, .mov 7 (.s 59)⟩, ⟨none, .mov 8 (.s 60)⟩]))) (.seq (.reg [⟨none, .mov 61 (.s 6)⟩, ⟨none, .bin 62 .eql false (.s 61) (.k (.str ⟨#[]⟩))⟩, ⟨none, .mov 63 (.s 62)⟩, ⟨some (63, false), .mov 64 (.s 6)⟩, ⟨some (63, false), .call (some 65) (.k (.fn 89 [])) [.s 64]⟩, ⟨none, .pick 66 (.s 63) (.k (.bool true)) (.s 65)⟩, ⟨none, .mov 67 (.s 66)⟩, ⟨some (67, false), .mov 68 (.s 6)⟩, ⟨some (67, false), .call (some 69) (.k (.fn 124 [])) [.s 68, .k (.str ⟨#[44]⟩)]⟩, ⟨none, .pick 70 (.s 67) (.k (.bool true)) (.s 69)⟩, ⟨none, .mov 71 (.s 70)⟩, ⟨some (71, false), .mov 72 (.s 6)⟩, ⟨some (71, false), .call (some 73) (.k (.fn 124 [])) [.s 72, .k (.str ⟨#[93]⟩)]⟩, ⟨none, .pick 74 (.s 71) (.k (.bool true)) (.s 73)⟩, ⟨none, .mov 75 (.s 74)⟩, ⟨some (75, false), .mov 76 (.s 6)⟩, ⟨some (75, false), .call (some 77) (.k (.fn 124 [])) [.s 76, .k (.str ⟨#[125]⟩)]⟩, ⟨none, .pick 78 (.s 75) (.k (.bool true)) (.s 77)⟩]) (.cond (.s 78) (.reg [⟨none, .mov 8 (.k (.bool false))⟩]) .skip)))) (.seq (.seq (.reg [⟨none, .mov 79 (.s 8)⟩, ⟨none, .un 80 .not (.s 79)⟩]) (.cond (.s 80) (.seq (.reg [⟨none, .build 81 [.int .i64 0, .bool false, .int .i64 0, .str ⟨#[]⟩, .lst .nil 6 [], .lst .nil 7 []] []⟩, ⟨none, .st 6 (.s 2) (.s 81)⟩, ⟨none, .mov 3 (.k (.str ⟨#[]⟩))⟩, ⟨none, .mov 4 (.k (.int .i64 10))⟩]) .ret) .skip)) (.seq (.seq (.reg [⟨none, .ld 83 6 true (.s 5)⟩, ⟨none, .mov 84 (.s 6)⟩, ⟨none, .call (some 85) (.k (.fn 93 [])) [.s 83, .s 84]⟩, ⟨none, .mov 82 (.s 85)⟩, ⟨none, .ext 86 0 (.s 82)⟩, ⟨none, .ext 87 1 (.s 82)⟩, ⟨none, .alloc 10 [.int .i64 0, .bool false, .int .i64 0, .str ⟨#[]⟩, .lst .nil 6 [], .lst .nil 7 []]⟩, ⟨none, .st 6 (.s 10) (.s 86)⟩, ⟨none, .mov 11 (.s 87)⟩]) (.seq (.reg [⟨none, .mov 88 (.s 11)⟩]) (.cond (.s 88) (.seq (.reg [⟨none, .build 89 [.int .i64 0, .bool false, .int .i64 0, .str ⟨#[]⟩, .lst .nil 6 [], .lst .nil 7 []] []⟩, ⟨none, .st 6 (.s 2) (.s 89)⟩, ⟨none, .mov 3 (.k (.str ⟨#[]⟩))⟩, ⟨none, .mov 4 (.k (.int .i64 13))⟩]) .ret) .skip))) (.seq (.reg [⟨none, .mov 91 (.s 7)⟩, ⟨none, .call (some 92) (.k (.fn 95 [])) [.s 91, .k (.str ⟨#[44, 125]⟩)]⟩, ⟨none, .mov 90 (.s 92)⟩, ⟨none, .ext 93 0 (.s 90)⟩, ⟨none, .ext 94 1 (.s 90)⟩, ⟨none, .ext 95 2 (.s 90)⟩, ⟨none, .alloc 12 [.int .i64 0, .bool false, .int .i64 0, .str ⟨#[]⟩, .lst .nil 6 [], .lst .nil 7 []]⟩, ⟨none, .st 6 (.s 12) (.s 93)⟩, ⟨none, .mov 13 (.s 94)⟩, ⟨none, .mov 14 (.s 95)⟩]) (.seq (.seq (.reg [⟨none, .mov 96 (.s 14)⟩, ⟨none, .bin 97 .neq false (.s 96) (.k (.int .i64 0))⟩]) (.cond (.s 97) (.seq (.reg [⟨none, .build 98 [.int .i64 0, .bool false, .int .i64 0, .str ⟨#[]⟩, .lst .nil 6 [], .lst .nil 7 []] []⟩, ⟨none, .mov 99 (.s 14)⟩, ⟨none, .st 6 (.s 2) (.s 98)⟩, ⟨none, .mov 3 (.k (.str ⟨#[]⟩))⟩, ⟨none, .mov 4 (.s 99)⟩]) .ret) .skip)) (.seq (.reg [⟨none, .ld 100 6 true (.s 5)⟩, ⟨none, .mov 101 (.s 6)⟩, ⟨none, .ld 102 6 true (.s 12)⟩, ⟨none, .call (some 103) (.k (.fn 94 [])) [.s 100, .s 101, .s 102]⟩, ⟨none, .st 6 (.s 5) (.s 103)⟩]) (.seq (.block 2 (.seq (.reg [⟨none, .mov 105 (.s 13)⟩, ⟨none, .call (some 106) (.k (.fn 34 [])) [.s 105, .k (.str ⟨#[125]⟩)]⟩, ⟨none, .mov 104 (.s 106)⟩]) (.cond (.s 104) (.seq (.reg [⟨none, .ld 107 6 true (.s 5)⟩, ⟨none, .mov 108 (.s 13)⟩, ⟨none, .sub 109 true 0 (.s 108) (some (.k (.int .i64 1))) none⟩, ⟨none, .call (some 110) (.k (.fn 47 [])) [.s 109, .k (.str ⟨#[32]⟩)]⟩, ⟨none, .st 6 (.s 2) (.s 107)⟩, ⟨none, .mov 3 (.s 110)⟩, ⟨none, .mov 4 (.k (.int .i64 0))⟩]) .ret) (.seq (.reg [⟨none, .mov 112 (.s 13)⟩, ⟨none, .call (some 113) (.k (.fn 34 [])) [.s 112, .k (.str ⟨#[44]⟩)]⟩, ⟨none, .un 114 .not (.s 113)⟩, ⟨none, .mov 111 (.s 114)⟩]) (.cond (.s 111) (.seq (.reg [⟨none, .build 115 [.int .i64 0, .bool false, .int .i64 0, .str ⟨#[]⟩, .lst .nil 6 [], .lst .nil 7 []] []⟩, ⟨none, .st 6 (.s 2) (.s 115)⟩, ⟨none, .mov 3 (.k (.str ⟨#[]⟩))⟩, ⟨none, .mov 4 (.k (.int .i64 10))⟩]) .ret) .skip))))) (.reg [⟨none, .mov 116 (.s 13)⟩, ⟨none, .sub 117 true 0 (.s 116) (some (.k (.int .i64 1))) none⟩, ⟨none, .mov 0 (.s 117)⟩])))))))))))))))))
def a_yaml_braces : AFn := ⟨1, 118, b_yaml_braces, [.cell 2 6 true, .tmp 3, .tmp 4]⟩
theorem a_yaml_braces_ok : fnAF Tryz.prog [2000024, 2000091, 2000050, 2000051, 2000023, 2000052, 2000021] Tryz.f123 = some a_yaml_braces := by kernel_rfl
theorem a_yaml_braces_cb : callable Tryz.prog 123 = true := by kernel_rfl
def b_yaml_lines : ACode :=
 .seq (.reg [⟨none, .mov 2 (.k (.lst .nil 2 []))⟩, ⟨none, .mov 3 (.k (.int .i64 0))⟩]) (.seq (.reg [⟨none, .mov 4 (.k (.lst .nil 2 []))⟩]) (.seq (.seq (.reg [⟨none, .mov 8 (.s 0)⟩, ⟨none, .call (some 9) (.k (.fn 14 [])) [.s 8, .k (.str ⟨#[10]⟩)]⟩, ⟨none, .len 10 false (.s 9)⟩, ⟨none, .mov 11 (.k (.int .i64 0))⟩]) (.block 0 (.loop (.seq (.reg [⟨none, .bin 12 .lss false (.s 11) (.s 10)⟩]) (.seq (.cond (.s 12) .skip (.exit 0)) (.seq (.block 1 (.seq (.reg [⟨none, .idx 13 1 (.s 9) (.s 11)⟩, ⟨none, .ld 14 1 false (.s 13)⟩, ⟨none, .mov 6 (.s 14)⟩]) (.seq (.reg [⟨none, .mov 15 (.s 6)⟩, ⟨none, .call (some 16) (.k (.fn 46 [])) [.s 15]⟩, ⟨none, .call (some 17) (.k (.fn 18 [])) [.s 16, .k (.str ⟨#[32]⟩)]⟩, ⟨none, .mov 6 (.s 17)⟩]) (.seq (.reg [⟨none, .mov 18 (.s 6)⟩, ⟨none, .call (some 19) (.k (.fn 47 [])) [.s 18, .k (.str ⟨#[32]⟩)]⟩, ⟨none, .mov 7 (.s 19)⟩]) (.seq (.seq (.reg [⟨none, .mov 20 (.s 7)⟩, ⟨none, .bin 21 .eql false (.s 20) (.k (.str ⟨#[]⟩))⟩]) (.cond (.s 21) (.exit 1) .skip)) (.seq (.seq (.reg [⟨none, .mov 22 (.s 7)⟩, ⟨none, .bidx 23 (.s 22) (.k (.int .i64 0))⟩, ⟨none, .bin 24 .eql false (.s 23) (.k (.int .u8 9))⟩]) (.cond (.s 24) (.seq (.reg [⟨none, .mov 2 (.k (.lst .nil 2 []))⟩, ⟨none, .mov 3 (.k (.int .i64 12))⟩]) .ret) .skip)) (.reg [⟨none, .mov 25 (.s 4)⟩, ⟨none, .mov 26 (.s 6)⟩, ⟨none, .len 27 true (.s 26)⟩, ⟨none, .mov 28 (.s 7)⟩, ⟨none, .len 29 true (.s 28)⟩, ⟨none, .bin 30 .sub false (.s 27) (.s 29)⟩, ⟨none, .mov 31 (.s 7)⟩, ⟨none, .build 32 [.int .i64 0, .str ⟨#[]⟩] [(0, 1, .s 30), (1, 1, .s 31)]⟩, ⟨none, .bsl 33 1 2 [.int .i64 0, .str ⟨#[]⟩] [(0, 2, .s 32)]⟩, ⟨none, .app 34 2 24 (.s 25) (.s 33)⟩, ⟨none, .mov 4 (.s 34)⟩]))))))) (.reg [⟨none, .bin 35 .add false (.s 11) (.k (.int .i64 1))⟩, ⟨none, .mov 11 (.s 35)⟩]))))))) (.seq (.reg [⟨none, .mov 36 (.s 4)⟩, ⟨none, .mov 2 (.s 36)⟩, ⟨none, .mov 3 (.k (.int .i64 0))⟩]) .ret)))
def a_yaml_lines : AFn := ⟨1, 37, b_yaml_lines, [.tmp 2, .tmp 3]⟩
theorem a_yaml_lines_ok : fnAF Tryz.prog [2000024, 2000091, 2000050, 2000051, 2000023, 2000052, 2000021] Tryz.f21 = some a_yaml_lines := by kernel_rfl
theorem a_yaml_lines_cb : callable Tryz.prog 21 = true := by kernel_rfl
def b_yaml_reader_fail : ACode :=
 .seq (.reg [⟨none, .alloc 4 [.int .i64 0, .bool false, .int .i64 0, .str ⟨#[]⟩, .lst .nil 6 [], .lst .nil 7 []]⟩]) (.seq (.seq (.reg [⟨none, .mov 5 (.s 0)⟩, ⟨none, .off 6 0 (.s 5)⟩, ⟨none, .off 7 2 (.s 6)⟩, ⟨none, .ld 8 1 false (.s 7)⟩, ⟨none, .bin 9 .eql false (.s 8) (.k (.int .i64 0))⟩]) (.cond (.s 9) (.reg [⟨none, .mov 10 (.s 0)⟩, ⟨none, .mov 11 (.s 1)⟩, ⟨none, .off 12 0 (.s 10)⟩, ⟨none, .off 13 2 (.s 12)⟩, ⟨none, .st 1 (.s 13) (.s 11)⟩]) .skip)) (.seq (.reg [⟨none, .mov 14 (.s 0)⟩, ⟨none, .mov 15 (.s 0)⟩, ⟨none, .off 16 0 (.s 15)⟩, ⟨none, .off 17 0 (.s 16)⟩, ⟨none, .ld 18 1 false (.s 17)⟩, ⟨none, .len 19 false (.s 18)⟩, ⟨none, .off 20 0 (.s 14)⟩, ⟨none, .off 21 1 (.s 20)⟩, ⟨none, .st 1 (.s 21) (.s 19)⟩]) (.seq (.reg [⟨none, .build 22 [.int .i64 0, .bool false, .int .i64 0, .str ⟨#[]⟩, .lst .nil 6 [], .lst .nil 7 []] []⟩, ⟨none, .st 6 (.s 4) (.s 22)⟩]) .ret)))
def a_yaml_reader_fail : AFn := ⟨2, 23, b_yaml_reader_fail, [.cell 4 6 true]⟩
theorem a_yaml_reader_fail_ok : fnAF Tryz.prog [2000024, 2000091, 2000050, 2000051, 2000023, 2000052, 2000021] Tryz.f24 = some a_yaml_reader_fail := by kernel_rfl
theorem a_yaml_reader_fail_cb : callable Tryz.prog 24 = true := by kernel_rfl
def b_yaml_reader_below : ACode :=
 .seq (.reg [⟨none, .alloc 4 [.int .i64 0, .bool false, .int .i64 0, .str ⟨#[]⟩, .lst .nil 6 [], .lst .nil 7 []]⟩]) (.seq (.seq (.reg [⟨none, .mov 5 (.s 0)⟩, ⟨none, .off 6 0 (.s 5)⟩, ⟨none, .off 7 1 (.s 6)⟩, ⟨none, .ld 8 1 false (.s 7)⟩, ⟨none, .mov 9 (.s 0)⟩, ⟨none, .off 10 0 (.s 9)⟩, ⟨none, .off 11 0 (.s 10)⟩, ⟨none, .ld 12 1 false (.s 11)⟩, ⟨none, .len 13 false (.s 12)⟩, ⟨none, .bin 14 .lss false (.s 8) (.s 13)⟩, ⟨none, .mov 15 (.s 14)⟩, ⟨some (15, true), .mov 16 (.s 0)⟩, ⟨some (15, true), .off 17 0 (.s 16)⟩, ⟨some (15, true), .off 18 0 (.s 17)⟩, ⟨some (15, true), .ld 19 1 false (.s 18)⟩, ⟨some (15, true), .mov 20 (.s 0)⟩, ⟨some (15, true), .off 21 0 (.s 20)⟩, ⟨some (15, true), .off 22 1 (.s 21)⟩, ⟨some (15, true), .ld 23 1 false (.s 22)⟩, ⟨some (15, true), .idx 24 2 (.s 19) (.s 23)⟩, ⟨some (15, true), .off 25 0 (.s 24)⟩, ⟨some (15, true), .ld 26 1 false (.s 25)⟩, ⟨some (15, true), .mov 27 (.s 1)⟩, ⟨some (15, true), .bin 28 .gtr false (.s 26) (.s 27)⟩, ⟨none, .pick 29 (.s 15) (.s 28) (.k (.bool false))⟩]) (.cond (.s 29) (.seq (.reg [⟨none, .mov 30 (.s 0)⟩, ⟨none, .mov 31 (.s 0)⟩, ⟨none, .off 32 0 (.s 31)⟩, ⟨none, .off 33 0 (.s 32)⟩, ⟨none, .ld 34 1 false (.s 33)⟩, ⟨none, .mov 35 (.s 0)⟩, ⟨none, .off 36 0 (.s 35)⟩, ⟨none, .off 37 1 (.s 36)⟩, ⟨none, .ld 38 1 false (.s 37)⟩, ⟨none, .idx 39 2 (.s 34) (.s 38)⟩, ⟨none, .off 40 0 (.s 39)⟩, ⟨none, .ld 41 1 false (.s 40)⟩, ⟨none, .calls (some 42) (.k (.fn 23 [])) [.s 30, .s 41]⟩, ⟨none, .st 6 (.s 4) (.s 42)⟩]) .ret) .skip)) (.seq (.reg [⟨none, .call (some 43) (.k (.fn 22 [])) []⟩, ⟨none, .st 6 (.s 4) (.s 43)⟩]) .ret))
def a_yaml_reader_below : AFn := ⟨2, 44, b_yaml_reader_below, [.cell 4 6 true]⟩
theorem a_yaml_reader_below_ok : fnAF Tryz.prog [2000024, 2000091, 2000050, 2000051, 2000023, 2000052, 2000021] Tryz.f91 = some a_yaml_reader_below := by kernel_rfl
theorem a_yaml_reader_below_cb : callable Tryz.prog 91 = true := by kernel_rfl
def b_yaml_reader_list : ACode :=
 .seq (.reg [⟨none, .alloc 4 [.int .i64 0, .bool false, .int .i64 0, .str ⟨#[]⟩, .lst .nil 6 [], .lst .nil 7 []]⟩]) (.seq (.reg [⟨none, .call (some 8) (.k (.fn 90 [])) [.k (.lst .nil 6 [])]⟩, ⟨none, .alloc 5 [.int .i64 0, .bool false, .int .i64 0, .str ⟨#[]⟩, .lst .nil 6 [], .lst .nil 7 []]⟩, ⟨none, .st 6 (.s 5) (.s 8)⟩]) (.seq (.block 0 (.loop (.seq (.seq (.reg [⟨none, .mov 9 (.s 0)⟩, ⟨none, .off 10 0 (.s 9)⟩, ⟨none, .off 11 1 (.s 10)⟩, ⟨none, .ld 12 1 false (.s 11)⟩, ⟨none, .mov 13 (.s 0)⟩, ⟨none, .off 14 0 (.s 13)⟩, ⟨none, .off 15 0 (.s 14)⟩, ⟨none, .ld 16 1 false (.s 15)⟩, ⟨none, .len 17 false (.s 16)⟩, ⟨none, .bin 18 .lss false (.s 12) (.s 17)⟩, ⟨none, .mov 19 (.s 18)⟩, ⟨some (19, true), .mov 20 (.s 0)⟩, ⟨some (19, true), .off 21 0 (.s 20)⟩, ⟨some (19, true), .off 22 0 (.s 21)⟩, ⟨some (19, true), .ld 23 1 false (.s 22)⟩, ⟨some (19, true), .mov 24 (.s 0)⟩, ⟨some (19, true), .off 25 0 (.s 24)⟩, ⟨some (19, true), .off 26 1 (.s 25)⟩, ⟨some (19, true), .ld 27 1 false (.s 26)⟩, ⟨some (19, true), .idx 28 2 (.s 23) (.s 27)⟩, ⟨some (19, true), .off 29 0 (.s 28)⟩, ⟨some (19, true), .ld 30 1 false (.s 29)⟩, ⟨some (19, true), .mov 31 (.s 1)⟩, ⟨some (19, true), .bin 32 .eql false (.s 30) (.s 31)⟩, ⟨none, .pick 33 (.s 19) (.s 32) (.k (.bool false))⟩, ⟨none, .mov 34 (.s 33)⟩, ⟨some (34, true), .mov 35 (.s 0)⟩, ⟨some (34, true), .off 36 0 (.s 35)⟩, ⟨some (34, true), .off 37 0 (.s 36)⟩, ⟨some (34, true), .ld 38 1 false (.s 37)⟩, ⟨some (34, true), .mov 39 (.s 0)⟩, ⟨some (34, true), .off 40 0 (.s 39)⟩, ⟨some (34, true), .off 41 1 (.s 40)⟩, ⟨some (34, true), .ld 42 1 false (.s 41)⟩, ⟨some (34, true), .idx 43 2 (.s 38) (.s 42)⟩, ⟨some (34, true), .off 44 1 (.s 43)⟩, ⟨some (34, true), .ld 45 1 false (.s 44)⟩, ⟨some (34, true), .call (some 46) (.k (.fn 49 [])) [.s 45]⟩, ⟨none, .pick 47 (.s 34) (.s 46) (.k (.bool false))⟩]) (.cond (.s 47) .skip (.exit 0))) (.block 1 (.seq (.reg [⟨none, .mov 48 (.s 0)⟩, ⟨none, .off 49 0 (.s 48)⟩, ⟨none, .off 50 0 (.s 49)⟩, ⟨none, .ld 51 1 false (.s 50)⟩, ⟨none, .mov 52 (.s 0)⟩, ⟨none, .off 53 0 (.s 52)⟩, ⟨none, .off 54 1 (.s 53)⟩, ⟨none, .ld 55 1 false (.s 54)⟩, ⟨none, .idx 56 2 (.s 51) (.s 55)⟩, ⟨none, .off 57 1 (.s 56)⟩, ⟨none, .ld 58 1 false (.s 57)⟩, ⟨none, .sub 59 true 0 (.s 58) (some (.k (.int .i64 1))) none⟩, ⟨none, .call (some 60) (.k (.fn 47 [])) [.s 59, .k (.str ⟨#[32]⟩)]⟩, ⟨none, .mov 6 (.s 60)⟩]) (.seq (.seq (.reg [⟨none, .mov 61 (.s 6)⟩, ⟨none, .bin 62 .eql false (.s 61) (.k (.str ⟨#[]⟩))⟩]) (.cond (.s 62) (.seq (.reg [⟨none, .mov 63 (.s 0)⟩, ⟨none, .off 64 0 (.s 63)⟩, ⟨none, .off 65 1 (.s 64)⟩, ⟨none, .ld 66 1 false (.s 65)⟩, ⟨none, .bin 67 .add false (.s 66) (.k (.int .i64 1))⟩, ⟨none, .off 68 0 (.s 63)⟩, ⟨none, .off 69 1 (.s 68)⟩, ⟨none, .st 1 (.s 69) (.s 67)⟩]) (.seq (.rega [⟨none, .off 70 4 (.s 5)⟩, ⟨none, .ld 71 1 false (.s 70)⟩, ⟨none, .mov 72 (.s 0)⟩, ⟨none, .mov 73 (.s 1)⟩, ⟨none, .calls (some 74) (.k (.fn 91 [])) [.s 72, .s 73]⟩, ⟨none, .bsl 75 1 6 [.int .i64 0, .bool false, .int .i64 0, .str ⟨#[]⟩, .lst .nil 6 [], .lst .nil 7 []] [(0, 6, .s 74)]⟩, ⟨none, .app 76 6 88 (.s 71) (.s 75)⟩, ⟨none, .off 77 4 (.s 5)⟩, ⟨none, .st 1 (.s 77) (.s 76)⟩] [[], [0], [], [], [2, 3], [4], [1, 5, 4], [0, 1, 2, 3, 4, 5, 6], [7, 6, 6, 0, 1, 2, 3, 4, 5, 6]]) (.exit 1))) .skip)) (.seq (.reg [⟨none, .mov 78 (.s 1)⟩, ⟨none, .mov 79 (.s 0)⟩, ⟨none, .off 80 0 (.s 79)⟩, ⟨none, .off 81 0 (.s 80)⟩, ⟨none, .ld 82 1 false (.s 81)⟩, ⟨none, .mov 83 (.s 0)⟩, ⟨none, .off 84 0 (.s 83)⟩, ⟨none, .off 85 1 (.s 84)⟩, ⟨none, .ld 86 1 false (.s 85)⟩, ⟨none, .idx 87 2 (.s 82) (.s 86)⟩, ⟨none, .off 88 1 (.s 87)⟩, ⟨none, .ld 89 1 false (.s 88)⟩, ⟨none, .len 90 true (.s 89)⟩, ⟨none, .bin 91 .add false (.s 78) (.s 90)⟩, ⟨none, .mov 92 (.s 6)⟩, ⟨none, .len 93 true (.s 92)⟩, ⟨none, .bin 94 .sub false (.s 91) (.s 93)⟩, ⟨none, .mov 7 (.s 94)⟩]) (.seq (.reg [⟨none, .mov 95 (.s 0)⟩, ⟨none, .off 96 0 (.s 95)⟩, ⟨none, .off 97 0 (.s 96)⟩, ⟨none, .ld 98 1 false (.s 97)⟩, ⟨none, .mov 99 (.s 0)⟩, ⟨none, .off 100 0 (.s 99)⟩, ⟨none, .off 101 1 (.s 100)⟩, ⟨none, .ld 102 1 false (.s 101)⟩, ⟨none, .mov 103 (.s 7)⟩, ⟨none, .mov 104 (.s 6)⟩, ⟨none, .build 105 [.int .i64 0, .str ⟨#[]⟩] [(0, 1, .s 103), (1, 1, .s 104)]⟩, ⟨none, .idx 106 2 (.s 98) (.s 102)⟩, ⟨none, .st 2 (.s 106) (.s 105)⟩]) (.rega [⟨none, .off 107 4 (.s 5)⟩, ⟨none, .ld 108 1 false (.s 107)⟩, ⟨none, .mov 109 (.s 0)⟩, ⟨none, .mov 110 (.s 7)⟩, ⟨none, .calls (some 111) (.k (.fn 23 [])) [.s 109, .s 110]⟩, ⟨none, .bsl 112 1 6 [.int .i64 0, .bool false, .int .i64 0, .str ⟨#[]⟩, .lst .nil 6 [], .lst .nil 7 []] [(0, 6, .s 111)]⟩, ⟨none, .app 113 6 88 (.s 108) (.s 112)⟩, ⟨none, .off 114 4 (.s 5)⟩, ⟨none, .st 1 (.s 114) (.s 113)⟩] [[], [0], [], [], [2, 3], [4], [1, 5, 4], [0, 1, 2, 3, 4, 5, 6], [7, 6, 6, 0, 1, 2, 3, 4, 5, 6]]))))))))) (.seq (.reg [⟨none, .ld 115 6 true (.s 5)⟩, ⟨none, .st 6 (.s 4) (.s 115)⟩]) .ret)))
def a_yaml_reader_list : AFn := ⟨2, 116, b_yaml_reader_list, [.cell 4 6 true]⟩
theorem a_yaml_reader_list_ok : fnAF Tryz.prog [2000024, 2000091, 2000050, 2000051, 2000023, 2000052, 2000021] Tryz.f50 = some a_yaml_reader_list := by kernel_rfl
theorem a_yaml_reader_list_cb : callable Tryz.prog 50 = true := by kernel_rfl
def b_yaml_reader_pairs : ACode :=
 .seq (.reg [⟨none, .alloc 4 [.int .i64 0, .bool false, .int .i64 0, .str ⟨#[]⟩, .lst .nil 6 [], .lst .nil 7 []]⟩]) (.seq (.reg [⟨none, .call (some 12) (.k (.fn 92 [])) [.k (.lst .nil 7 [])]⟩, ⟨none, .alloc 5 [.int .i64 0, .bool false, .int .i64 0, .str ⟨#[]⟩, .lst .nil 6 [], .lst .nil 7 []]⟩, ⟨none, .st 6 (.s 5) (.s 12)⟩]) (.seq (.block 0 (.loop (.seq (.seq (.reg [⟨none, .mov 13 (.s 0)⟩, ⟨none, .off 14 0 (.s 13)⟩, ⟨none, .off 15 1 (.s 14)⟩, ⟨none, .ld 16 1 false (.s 15)⟩, ⟨none, .mov 17 (.s 0)⟩, ⟨none, .off 18 0 (.s 17)⟩, ⟨none, .off 19 0 (.s 18)⟩, ⟨none, .ld 20 1 false (.s 19)⟩, ⟨none, .len 21 false (.s 20)⟩, ⟨none, .bin 22 .lss false (.s 16) (.s 21)⟩, ⟨none, .mov 23 (.s 22)⟩, ⟨some (23, true), .mov 24 (.s 0)⟩, ⟨some (23, true), .off 25 0 (.s 24)⟩, ⟨some (23, true), .off 26 0 (.s 25)⟩, ⟨some (23, true), .ld 27 1 false (.s 26)⟩, ⟨some (23, true), .mov 28 (.s 0)⟩, ⟨some (23, true), .off 29 0 (.s 28)⟩, ⟨some (23, true), .off 30 1 (.s 29)⟩, ⟨some (23, true), .ld 31 1 false (.s 30)⟩, ⟨some (23, true), .idx 32 2 (.s 27) (.s 31)⟩, ⟨some (23, true), .off 33 0 (.s 32)⟩, ⟨some (23, true), .ld 34 1 false (.s 33)⟩, ⟨some (23, true), .mov 35 (.s 1)⟩, ⟨some (23, true), .bin 36 .eql false (.s 34) (.s 35)⟩, ⟨none, .pick 37 (.s 23) (.s 36) (.k (.bool false))⟩]) (.cond (.s 37) .skip (.exit 0))) (.block 1 (.seq (.reg [⟨none, .mov 39 (.s 0)⟩, ⟨none, .off 40 0 (.s 39)⟩, ⟨none, .off 41 0 (.s 40)⟩, ⟨none, .ld 42 1 false (.s 41)⟩, ⟨none, .mov 43 (.s 0)⟩, ⟨none, .off 44 0 (.s 43)⟩, ⟨none, .off 45 1 (.s 44)⟩, ⟨none, .ld 46 1 false (.s 45)⟩, ⟨none, .idx 47 2 (.s 42) (.s 46)⟩, ⟨none, .off 48 1 (.s 47)⟩, ⟨none, .ld 49 1 false (.s 48)⟩, ⟨none, .call (some 50) (.k (.fn 48 [])) [.s 49]⟩, ⟨none, .mov 38 (.s 50)⟩, ⟨none, .ext 51 0 (.s 38)⟩, ⟨none, .ext 52 1 (.s 38)⟩, ⟨none, .ext 53 2 (.s 38)⟩, ⟨none, .mov 6 (.s 51)⟩, ⟨none, .mov 7 (.s 52)⟩, ⟨none, .mov 8 (.s 53)⟩]) (.seq (.seq (.reg [⟨none, .mov 54 (.s 0)⟩, ⟨none, .off 55 0 (.s 54)⟩, ⟨none, .off 56 0 (.s 55)⟩, ⟨none, .ld 57 1 false (.s 56)⟩, ⟨none, .mov 58 (.s 0)⟩, ⟨none, .off 59 0 (.s 58)⟩, ⟨none, .off 60 1 (.s 59)⟩, ⟨none, .ld 61 1 false (.s 60)⟩, ⟨none, .idx 62 2 (.s 57) (.s 61)⟩, ⟨none, .off 63 1 (.s 62)⟩, ⟨none, .ld 64 1 false (.s 63)⟩, ⟨none, .call (some 65) (.k (.fn 49 [])) [.s 64]⟩, ⟨none, .mov 66 (.s 65)⟩, ⟨some (66, false), .mov 67 (.s 8)⟩, ⟨some (66, false), .un 68 .not (.s 67)⟩, ⟨none, .pick 69 (.s 66) (.k (.bool true)) (.s 68)⟩]) (.cond (.s 69) (.seq (.reg [⟨none, .mov 70 (.s 0)⟩, ⟨none, .calls (some 71) (.k (.fn 24 [])) [.s 70, .k (.int .i64 10)]⟩, ⟨none, .st 6 (.s 4) (.s 71)⟩]) .ret) .skip)) (.seq (.seq (.reg [⟨none, .ld 73 6 true (.s 5)⟩, ⟨none, .mov 74 (.s 6)⟩, ⟨none, .call (some 75) (.k (.fn 93 [])) [.s 73, .s 74]⟩, ⟨none, .mov 72 (.s 75)⟩, ⟨none, .ext 76 0 (.s 72)⟩, ⟨none, .ext 77 1 (.s 72)⟩, ⟨none, .alloc 9 [.int .i64 0, .bool false, .int .i64 0, .str ⟨#[]⟩, .lst .nil 6 [], .lst .nil 7 []]⟩, ⟨none, .st 6 (.s 9) (.s 76)⟩, ⟨none, .mov 10 (.s 77)⟩]) (.seq (.reg [⟨none, .mov 78 (.s 10)⟩]) (.cond (.s 78) (.seq (.reg [⟨none, .mov 79 (.s 0)⟩, ⟨none, .calls (some 80) (.k (.fn 24 [])) [.s 79, .k (.int .i64 13)]⟩, ⟨none, .st 6 (.s 4) (.s 80)⟩]) .ret) .skip))) (.seq (.reg [⟨none, .mov 81 (.s 0)⟩, ⟨none, .off 82 0 (.s 81)⟩, ⟨none, .off 83 1 (.s 82)⟩, ⟨none, .ld 84 1 false (.s 83)⟩, ⟨none, .bin 85 .add false (.s 84) (.k (.int .i64 1))⟩, ⟨none, .off 86 0 (.s 81)⟩, ⟨none, .off 87 1 (.s 86)⟩, ⟨none, .st 1 (.s 87) (.s 85)⟩]) (.seq (.reg [⟨none, .build 88 [.int .i64 0, .bool false, .int .i64 0, .str ⟨#[]⟩, .lst .nil 6 [], .lst .nil 7 []] []⟩, ⟨none, .alloc 11 [.int .i64 0, .bool false, .int .i64 0, .str ⟨#[]⟩, .lst .nil 6 [], .lst .nil 7 []]⟩, ⟨none, .st 6 (.s 11) (.s 88)⟩]) (.seq (.seq (.reg [⟨none, .mov 89 (.s 7)⟩, ⟨none, .bin 90 .eql false (.s 89) (.k (.str ⟨#[]⟩))⟩]) (.cond (.s 90) (.reg [⟨none, .mov 91 (.s 0)⟩, ⟨none, .mov 92 (.s 1)⟩, ⟨none, .calls (some 93) (.k (.fn 91 [])) [.s 91, .s 92]⟩, ⟨none, .st 6 (.s 11) (.s 93)⟩]) (.reg [⟨none, .mov 94 (.s 0)⟩, ⟨none, .mov 95 (.s 7)⟩, ⟨none, .calls (some 96) (.k (.fn 52 [])) [.s 94, .s 95]⟩, ⟨none, .st 6 (.s 11) (.s 96)⟩]))) (.reg [⟨none, .ld 97 6 true (.s 5)⟩, ⟨none, .mov 98 (.s 6)⟩, ⟨none, .ld 99 6 true (.s 11)⟩, ⟨none, .call (some 100) (.k (.fn 94 [])) [.s 97, .s 98, .s 99]⟩, ⟨none, .st 6 (.s 5) (.s 100)⟩]))))))))))) (.seq (.reg [⟨none, .ld 101 6 true (.s 5)⟩, ⟨none, .st 6 (.s 4) (.s 101)⟩]) .ret)))
def a_yaml_reader_pairs : AFn := ⟨2, 102, b_yaml_reader_pairs, [.cell 4 6 true]⟩
theorem a_yaml_reader_pairs_ok : fnAF Tryz.prog [2000024, 2000091, 2000050, 2000051, 2000023, 2000052, 2000021] Tryz.f51 = some a_yaml_reader_pairs := by kernel_rfl
theorem a_yaml_reader_pairs_cb : callable Tryz.prog 51 = true := by kernel_rfl
def b_yaml_reader_block : ACode :=
 .seq (.reg [⟨none, .alloc 4 [.int .i64 0, .bool false, .int .i64 0, .str ⟨#[]⟩, .lst .nil 6 [], .lst .nil 7 []]⟩]) (.seq (.reg [⟨none, .mov 10 (.s 0)⟩, ⟨none, .off 11 0 (.s 10)⟩, ⟨none, .off 12 0 (.s 11)⟩, ⟨none, .ld 13 1 false (.s 12)⟩, ⟨none, .mov 14 (.s 0)⟩, ⟨none, .off 15 0 (.s 14)⟩, ⟨none, .off 16 1 (.s 15)⟩, ⟨none, .ld 17 1 false (.s 16)⟩, ⟨none, .idx 18 2 (.s 13) (.s 17)⟩, ⟨none, .off 19 1 (.s 18)⟩, ⟨none, .ld 20 1 false (.s 19)⟩, ⟨none, .mov 5 (.s 20)⟩]) (.seq (.reg [⟨none, .alloc 6 [.int .i64 0, .bool false, .int .i64 0, .str ⟨#[]⟩, .lst .nil 6 [], .lst .nil 7 []]⟩]) (.seq (.seq (.reg [⟨none, .mov 22 (.s 5)⟩, ⟨none, .call (some 23) (.k (.fn 48 [])) [.s 22]⟩, ⟨none, .mov 21 (.s 23)⟩, ⟨none, .ext 24 0 (.s 21)⟩, ⟨none, .ext 25 1 (.s 21)⟩, ⟨none, .ext 26 2 (.s 21)⟩, ⟨none, .mov 7 (.s 24)⟩, ⟨none, .mov 8 (.s 25)⟩, ⟨none, .mov 9 (.s 26)⟩]) (.block 0 (.seq (.reg [⟨none, .mov 38 (.s 5)⟩, ⟨none, .call (some 39) (.k (.fn 49 [])) [.s 38]⟩, ⟨none, .mov 37 (.s 39)⟩]) (.cond (.s 37) (.reg [⟨none, .mov 40 (.s 0)⟩, ⟨none, .mov 41 (.s 1)⟩, ⟨none, .calls (some 42) (.k (.fn 50 [])) [.s 40, .s 41]⟩, ⟨none, .st 6 (.s 6) (.s 42)⟩]) (.seq (.reg [⟨none, .mov 44 (.s 9)⟩, ⟨none, .mov 43 (.s 44)⟩]) (.cond (.s 43) (.reg [⟨none, .mov 45 (.s 0)⟩, ⟨none, .mov 46 (.s 1)⟩, ⟨none, .calls (some 47) (.k (.fn 51 [])) [.s 45, .s 46]⟩, ⟨none, .st 6 (.s 6) (.s 47)⟩]) (.seq (.reg [⟨none, .mov 27 (.s 0)⟩, ⟨none, .off 28 0 (.s 27)⟩, ⟨none, .off 29 1 (.s 28)⟩, ⟨none, .ld 30 1 false (.s 29)⟩, ⟨none, .bin 31 .add false (.s 30) (.k (.int .i64 1))⟩, ⟨none, .off 32 0 (.s 27)⟩, ⟨none, .off 33 1 (.s 32)⟩, ⟨none, .st 1 (.s 33) (.s 31)⟩]) (.reg [⟨none, .mov 34 (.s 0)⟩, ⟨none, .mov 35 (.s 5)⟩, ⟨none, .calls (some 36) (.k (.fn 52 [])) [.s 34, .s 35]⟩, ⟨none, .st 6 (.s 6) (.s 36)⟩])))))))) (.seq (.seq (.reg [⟨none, .mov 48 (.s 0)⟩, ⟨none, .off 49 0 (.s 48)⟩, ⟨none, .off 50 1 (.s 49)⟩, ⟨none, .ld 51 1 false (.s 50)⟩, ⟨none, .mov 52 (.s 0)⟩, ⟨none, .off 53 0 (.s 52)⟩, ⟨none, .off 54 0 (.s 53)⟩, ⟨none, .ld 55 1 false (.s 54)⟩, ⟨none, .len 56 false (.s 55)⟩, ⟨none, .bin 57 .lss false (.s 51) (.s 56)⟩, ⟨none, .mov 58 (.s 57)⟩, ⟨some (58, true), .mov 59 (.s 0)⟩, ⟨some (58, true), .off 60 0 (.s 59)⟩, ⟨some (58, true), .off 61 0 (.s 60)⟩, ⟨some (58, true), .ld 62 1 false (.s 61)⟩, ⟨some (58, true), .mov 63 (.s 0)⟩, ⟨some (58, true), .off 64 0 (.s 63)⟩, ⟨some (58, true), .off 65 1 (.s 64)⟩, ⟨some (58, true), .ld 66 1 false (.s 65)⟩, ⟨some (58, true), .idx 67 2 (.s 62) (.s 66)⟩, ⟨some (58, true), .off 68 0 (.s 67)⟩, ⟨some (58, true), .ld 69 1 false (.s 68)⟩, ⟨some (58, true), .mov 70 (.s 1)⟩, ⟨some (58, true), .bin 71 .gtr false (.s 69) (.s 70)⟩, ⟨none, .pick 72 (.s 58) (.s 71) (.k (.bool false))⟩]) (.cond (.s 72) (.seq (.reg [⟨none, .mov 73 (.s 0)⟩, ⟨none, .calls (some 74) (.k (.fn 24 [])) [.s 73, .k (.int .i64 12)]⟩, ⟨none, .st 6 (.s 4) (.s 74)⟩]) .ret) .skip)) (.seq (.reg [⟨none, .ld 75 6 true (.s 6)⟩, ⟨none, .st 6 (.s 4) (.s 75)⟩]) .ret)))))
def a_yaml_reader_block : AFn := ⟨2, 76, b_yaml_reader_block, [.cell 4 6 true]⟩
theorem a_yaml_reader_block_ok : fnAF Tryz.prog [2000024, 2000091, 2000050, 2000051, 2000023, 2000052, 2000021] Tryz.f23 = some a_yaml_reader_block := by kernel_rfl
theorem a_yaml_reader_block_cb : callable Tryz.prog 23 = true := by kernel_rfl
def b_yaml_reader_inline : ACode :=
 .seq (.reg [⟨none, .alloc 4 [.int .i64 0, .bool false, .int .i64 0, .str ⟨#[]⟩, .lst .nil 6 [], .lst .nil 7 []]⟩]) (.seq (.reg [⟨none, .mov 9 (.s 1)⟩, ⟨none, .call (some 10) (.k (.fn 95 [])) [.s 9, .k (.str ⟨#[]⟩)]⟩, ⟨none, .mov 8 (.s 10)⟩, ⟨none, .ext 11 0 (.s 8)⟩, ⟨none, .ext 12 1 (.s 8)⟩, ⟨none, .ext 13 2 (.s 8)⟩, ⟨none, .alloc 5 [.int .i64 0, .bool false, .int .i64 0, .str ⟨#[]⟩, .lst .nil 6 [], .lst .nil 7 []]⟩, ⟨none, .st 6 (.s 5) (.s 11)⟩, ⟨none, .mov 6 (.s 12)⟩, ⟨none, .mov 7 (.s 13)⟩]) (.seq (.seq (.reg [⟨none, .mov 14 (.s 7)⟩, ⟨none, .bin 15 .eql false (.s 14) (.k (.int .i64 0))⟩, ⟨none, .mov 16 (.s 15)⟩, ⟨some (16, true), .mov 17 (.s 6)⟩, ⟨some (16, true), .bin 18 .neq false (.s 17) (.k (.str ⟨#[]⟩))⟩, ⟨none, .pick 19 (.s 16) (.s 18) (.k (.bool false))⟩]) (.cond (.s 19) (.reg [⟨none, .mov 7 (.k (.int .i64 10))⟩]) .skip)) (.seq (.seq (.reg [⟨none, .mov 20 (.s 7)⟩, ⟨none, .bin 21 .neq false (.s 20) (.k (.int .i64 0))⟩]) (.cond (.s 21) (.seq (.reg [⟨none, .mov 22 (.s 0)⟩, ⟨none, .mov 23 (.s 7)⟩, ⟨none, .calls (some 24) (.k (.fn 24 [])) [.s 22, .s 23]⟩, ⟨none, .st 6 (.s 4) (.s 24)⟩]) .ret) .skip)) (.seq (.reg [⟨none, .ld 25 6 true (.s 5)⟩, ⟨none, .st 6 (.s 4) (.s 25)⟩]) .ret))))
def a_yaml_reader_inline : AFn := ⟨2, 26, b_yaml_reader_inline, [.cell 4 6 true]⟩
theorem a_yaml_reader_inline_ok : fnAF Tryz.prog [2000024, 2000091, 2000050, 2000051, 2000023, 2000052, 2000021] Tryz.f52 = some a_yaml_reader_inline := by kernel_rfl
theorem a_yaml_reader_inline_cb : callable Tryz.prog 52 = true := by kernel_rfl
def b_yaml_Parse : ACode :=
 .seq (.reg [⟨none, .alloc 2 [.int .i64 0, .bool false, .int .i64 0, .str ⟨#[]⟩, .lst .nil 6 [], .lst .nil 7 []]⟩, ⟨none, .mov 3 (.k (.int .i64 0))⟩]) (.seq (.seq (.reg [⟨none, .mov 9 (.s 0)⟩, ⟨none, .len 10 true (.s 9)⟩, ⟨none, .bin 11 .gtr false (.s 10) (.k (.int .i64 65536))⟩]) (.cond (.s 11) (.seq (.reg [⟨none, .build 12 [.int .i64 0, .bool false, .int .i64 0, .str ⟨#[]⟩, .lst .nil 6 [], .lst .nil 7 []] []⟩, ⟨none, .st 6 (.s 2) (.s 12)⟩, ⟨none, .mov 3 (.k (.int .i64 6))⟩]) .ret) .skip)) (.seq (.reg [⟨none, .mov 14 (.s 0)⟩, ⟨none, .calls (some 15) (.k (.fn 21 [])) [.s 14]⟩, ⟨none, .mov 13 (.s 15)⟩, ⟨none, .ext 16 0 (.s 13)⟩, ⟨none, .ext 17 1 (.s 13)⟩, ⟨none, .mov 4 (.s 16)⟩, ⟨none, .mov 5 (.s 17)⟩]) (.seq (.seq (.reg [⟨none, .mov 18 (.s 5)⟩, ⟨none, .bin 19 .neq false (.s 18) (.k (.int .i64 0))⟩]) (.cond (.s 19) (.seq (.reg [⟨none, .build 20 [.int .i64 0, .bool false, .int .i64 0, .str ⟨#[]⟩, .lst .nil 6 [], .lst .nil 7 []] []⟩, ⟨none, .mov 21 (.s 5)⟩, ⟨none, .st 6 (.s 2) (.s 20)⟩, ⟨none, .mov 3 (.s 21)⟩]) .ret) .skip)) (.seq (.seq (.reg [⟨none, .mov 22 (.s 4)⟩, ⟨none, .len 23 false (.s 22)⟩, ⟨none, .bin 24 .eql false (.s 23) (.k (.int .i64 0))⟩]) (.cond (.s 24) (.seq (.reg [⟨none, .call (some 25) (.k (.fn 22 [])) []⟩, ⟨none, .st 6 (.s 2) (.s 25)⟩, ⟨none, .mov 3 (.k (.int .i64 0))⟩]) .ret) .skip)) (.seq (.reg [⟨none, .mov 26 (.s 4)⟩, ⟨none, .build 27 [.lst .nil 2 [], .int .i64 0, .int .i64 0] [(0, 1, .s 26)]⟩, ⟨none, .box 28 (.s 27)⟩, ⟨none, .mov 6 (.s 28)⟩]) (.seq (.reg [⟨none, .mov 29 (.s 6)⟩, ⟨none, .mov 30 (.s 4)⟩, ⟨none, .idx 31 2 (.s 30) (.k (.int .i64 0))⟩, ⟨none, .off 32 0 (.s 31)⟩, ⟨none, .ld 33 1 false (.s 32)⟩, ⟨none, .calls (some 34) (.k (.fn 23 [])) [.s 29, .s 33]⟩, ⟨none, .alloc 7 [.int .i64 0, .bool false, .int .i64 0, .str ⟨#[]⟩, .lst .nil 6 [], .lst .nil 7 []]⟩, ⟨none, .st 6 (.s 7) (.s 34)⟩]) (.seq (.seq (.reg [⟨none, .mov 35 (.s 6)⟩, ⟨none, .off 36 0 (.s 35)⟩, ⟨none, .off 37 2 (.s 36)⟩, ⟨none, .ld 38 1 false (.s 37)⟩, ⟨none, .bin 39 .eql false (.s 38) (.k (.int .i64 0))⟩, ⟨none, .mov 40 (.s 39)⟩, ⟨some (40, true), .mov 41 (.s 6)⟩, ⟨some (40, true), .off 42 0 (.s 41)⟩, ⟨some (40, true), .off 43 1 (.s 42)⟩, ⟨some (40, true), .ld 44 1 false (.s 43)⟩, ⟨some (40, true), .mov 45 (.s 4)⟩, ⟨some (40, true), .len 46 false (.s 45)⟩, ⟨some (40, true), .bin 47 .lss false (.s 44) (.s 46)⟩, ⟨none, .pick 48 (.s 40) (.s 47) (.k (.bool false))⟩]) (.cond (.s 48) (.reg [⟨none, .mov 49 (.s 6)⟩, ⟨none, .calls (some 50) (.k (.fn 24 [])) [.s 49, .k (.int .i64 10)]⟩]) .skip)) (.seq (.seq (.reg [⟨none, .mov 51 (.s 6)⟩, ⟨none, .off 52 0 (.s 51)⟩, ⟨none, .off 53 2 (.s 52)⟩, ⟨none, .ld 54 1 false (.s 53)⟩, ⟨none, .bin 55 .neq false (.s 54) (.k (.int .i64 0))⟩]) (.cond (.s 55) (.seq (.rega [⟨none, .build 56 [.int .i64 0, .bool false, .int .i64 0, .str ⟨#[]⟩, .lst .nil 6 [], .lst .nil 7 []] []⟩, ⟨none, .mov 57 (.s 6)⟩, ⟨none, .off 58 0 (.s 57)⟩, ⟨none, .off 59 2 (.s 58)⟩, ⟨none, .ld 60 1 false (.s 59)⟩, ⟨none, .st 6 (.s 2) (.s 56)⟩, ⟨none, .mov 3 (.s 60)⟩] [[], [], [1], [2], [3], [0, 0], [4, 5, 0, 1, 2, 3, 4, 5]]) .ret) .skip)) (.seq (.seq (.reg [⟨none, .ld 61 6 true (.s 7)⟩, ⟨none, .call (some 62) (.k (.fn 25 [])) [.s 61]⟩, ⟨none, .mov 8 (.s 62)⟩]) (.seq (.reg [⟨none, .mov 63 (.s 8)⟩, ⟨none, .bin 64 .neq false (.s 63) (.k (.int .i64 0))⟩]) (.cond (.s 64) (.seq (.reg [⟨none, .build 65 [.int .i64 0, .bool false, .int .i64 0, .str ⟨#[]⟩, .lst .nil 6 [], .lst .nil 7 []] []⟩, ⟨none, .mov 66 (.s 8)⟩, ⟨none, .st 6 (.s 2) (.s 65)⟩, ⟨none, .mov 3 (.s 66)⟩]) .ret) .skip))) (.seq (.reg [⟨none, .ld 67 6 true (.s 7)⟩, ⟨none, .st 6 (.s 2) (.s 67)⟩, ⟨none, .mov 3 (.k (.int .i64 0))⟩]) .ret))))))))))
def a_yaml_Parse : AFn := ⟨1, 68, b_yaml_Parse, [.cell 2 6 true, .tmp 3]⟩
theorem a_yaml_Parse_ok : fnAF Tryz.prog [2000024, 2000091, 2000050, 2000051, 2000023, 2000052, 2000021] Tryz.f9 = some a_yaml_Parse := by kernel_rfl
theorem a_yaml_Parse_cb : callable Tryz.prog 9 = true := by kernel_rfl
def b_yaml_Docs : ACode :=
 .seq (.reg [⟨none, .mov 2 (.k (.lst .nil 1 []))⟩]) (.seq (.reg [⟨none, .mov 3 (.k (.lst .nil 1 []))⟩]) (.seq (.reg [⟨none, .mov 4 (.k (.lst .nil 1 []))⟩]) (.seq (.seq (.reg [⟨none, .mov 7 (.s 0)⟩, ⟨none, .call (some 8) (.k (.fn 14 [])) [.s 7, .k (.str ⟨#[10]⟩)]⟩, ⟨none, .len 9 false (.s 8)⟩, ⟨none, .mov 10 (.k (.int .i64 0))⟩]) (.block 0 (.loop (.seq (.reg [⟨none, .bin 11 .lss false (.s 10) (.s 9)⟩]) (.seq (.cond (.s 11) .skip (.exit 0)) (.seq (.block 1 (.seq (.reg [⟨none, .idx 12 1 (.s 8) (.s 10)⟩, ⟨none, .ld 13 1 false (.s 12)⟩, ⟨none, .mov 6 (.s 13)⟩]) (.seq (.seq (.reg [⟨none, .mov 14 (.s 6)⟩, ⟨none, .call (some 15) (.k (.fn 18 [])) [.s 14, .k (.str ⟨#[32]⟩)]⟩, ⟨none, .bin 16 .eql false (.s 15) (.k (.str ⟨#[45, 45, 45]⟩))⟩]) (.cond (.s 16) (.seq (.reg [⟨none, .mov 17 (.s 3)⟩, ⟨none, .mov 18 (.s 4)⟩, ⟨none, .call (some 19) (.k (.fn 43 [])) [.s 18, .k (.str ⟨#[10]⟩)]⟩, ⟨none, .bsl 20 1 1 [.str ⟨#[]⟩] [(0, 1, .s 19)]⟩, ⟨none, .app 21 1 16 (.s 17) (.s 20)⟩, ⟨none, .mov 3 (.s 21)⟩]) (.seq (.reg [⟨none, .mov 4 (.k (.lst .nil 1 []))⟩]) (.exit 1))) .skip)) (.reg [⟨none, .mov 22 (.s 4)⟩, ⟨none, .mov 23 (.s 6)⟩, ⟨none, .bsl 24 1 1 [.str ⟨#[]⟩] [(0, 1, .s 23)]⟩, ⟨none, .app 25 1 16 (.s 22) (.s 24)⟩, ⟨none, .mov 4 (.s 25)⟩])))) (.reg [⟨none, .bin 26 .add false (.s 10) (.k (.int .i64 1))⟩, ⟨none, .mov 10 (.s 26)⟩]))))))) (.seq (.reg [⟨none, .mov 27 (.s 3)⟩, ⟨none, .mov 28 (.s 4)⟩, ⟨none, .call (some 29) (.k (.fn 43 [])) [.s 28, .k (.str ⟨#[10]⟩)]⟩, ⟨none, .bsl 30 1 1 [.str ⟨#[]⟩] [(0, 1, .s 29)]⟩, ⟨none, .app 31 1 16 (.s 27) (.s 30)⟩, ⟨none, .mov 2 (.s 31)⟩]) .ret))))
def a_yaml_Docs : AFn := ⟨1, 32, b_yaml_Docs, [.tmp 2]⟩
theorem a_yaml_Docs_ok : fnAF Tryz.prog [2000024, 2000091, 2000050, 2000051, 2000023, 2000052, 2000021] Tryz.f19 = some a_yaml_Docs := by kernel_rfl
theorem a_yaml_Docs_cb : callable Tryz.prog 19 = true := by kernel_rfl
def b_law05_awake : ACode :=
 .seq (.reg [⟨none, .mov 0 (.k (.bool false))⟩]) (.seq (.reg [⟨none, .call (some 4) (.k (.fn 9 [])) [.k (.str ⟨#[97, 58, 32, 49, 32, 35, 32, 120, 10, 98, 58, 32, 91, 120, 44, 32, 123, 99, 58, 32, 50, 125, 93, 10]⟩)]⟩, ⟨none, .mov 3 (.s 4)⟩, ⟨none, .ext 5 0 (.s 3)⟩, ⟨none, .ext 6 1 (.s 3)⟩, ⟨none, .alloc 1 [.int .i64 0, .bool false, .int .i64 0, .str ⟨#[]⟩, .lst .nil 6 [], .lst .nil 7 []]⟩, ⟨none, .st 6 (.s 1) (.s 5)⟩, ⟨none, .mov 2 (.s 6)⟩]) (.seq (.reg [⟨none, .mov 7 (.s 2)⟩, ⟨none, .bin 8 .eql false (.s 7) (.k (.int .i64 0))⟩, ⟨none, .mov 9 (.s 8)⟩, ⟨some (9, true), .off 10 5 (.s 1)⟩, ⟨some (9, true), .ld 11 1 false (.s 10)⟩, ⟨some (9, true), .len 12 false (.s 11)⟩, ⟨some (9, true), .bin 13 .eql false (.s 12) (.k (.int .i64 2))⟩, ⟨none, .pick 14 (.s 9) (.s 13) (.k (.bool false))⟩, ⟨none, .mov 15 (.s 14)⟩, ⟨some (15, true), .off 16 5 (.s 1)⟩, ⟨some (15, true), .ld 17 1 false (.s 16)⟩, ⟨some (15, true), .idx 18 7 (.s 17) (.k (.int .i64 0))⟩, ⟨some (15, true), .off 19 1 (.s 18)⟩, ⟨some (15, true), .off 20 2 (.s 19)⟩, ⟨some (15, true), .ld 21 1 false (.s 20)⟩, ⟨some (15, true), .bin 22 .eql false (.s 21) (.k (.int .i64 1))⟩, ⟨none, .pick 23 (.s 15) (.s 22) (.k (.bool false))⟩, ⟨none, .mov 24 (.s 23)⟩, ⟨some (24, true), .off 25 5 (.s 1)⟩, ⟨some (24, true), .ld 26 1 false (.s 25)⟩, ⟨some (24, true), .idx 27 7 (.s 26) (.k (.int .i64 1))⟩, ⟨some (24, true), .off 28 1 (.s 27)⟩, ⟨some (24, true), .off 29 4 (.s 28)⟩, ⟨some (24, true), .ld 30 1 false (.s 29)⟩, ⟨some (24, true), .len 31 false (.s 30)⟩, ⟨some (24, true), .bin 32 .eql false (.s 31) (.k (.int .i64 2))⟩, ⟨none, .pick 33 (.s 24) (.s 32) (.k (.bool false))⟩, ⟨none, .mov 0 (.s 33)⟩]) .ret))
def a_law05_awake : AFn := ⟨0, 34, b_law05_awake, [.tmp 0]⟩
theorem a_law05_awake_ok : fnAF Tryz.prog [2000024, 2000091, 2000050, 2000051, 2000023, 2000052, 2000021] Tryz.f11 = some a_law05_awake := by kernel_rfl
theorem a_law05_awake_cb : callable Tryz.prog 11 = true := by kernel_rfl
end Go.Proofs.YtgekcnpfflhpkaaGreatDoor
