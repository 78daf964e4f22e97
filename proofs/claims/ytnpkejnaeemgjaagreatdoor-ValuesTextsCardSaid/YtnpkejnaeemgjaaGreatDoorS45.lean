/-
  The texts that the claim wants, one behind the other: part 45.
-/
import Derived.Test.YtnpkejnaeemgjaaGreatDoorS44
set_option linter.unusedSimpArgs false
set_option linter.unusedVariables false
namespace Go.Proofs.YtnpkejnaeemgjaaGreatDoor
open Go.RowKit
mutual
def V.tx : V → Prop
 | .mk _ _ _ s l m => s.size ≤ 140737488355328 ∧ txL l ∧ txM m
def txL : List V → Prop
 | [] => True
 | x :: l => x.tx ∧ txL l
def txM : List (ByteArray × V) → Prop
 | [] => True
 | (y, x) :: m => y.size ≤ 140737488355328 ∧ x.tx ∧ txM m
end
theorem txL_iff (l : List V) : txL l ↔ ∀ x ∈ l, x.tx := by
 induction l with
 | nil => simp [txL]
 | cons x l ih => simp [txL, ih]
theorem txM_iff (m : List (ByteArray × V)) : txM m ↔ ∀ p ∈ m, p.1.size ≤ 140737488355328 ∧ p.2.tx := by
 induction m with
 | nil => simp [txM]
 | cons p m ih => obtain ⟨y, x⟩ := p; rw [txM, ih, List.forall_mem_cons]; simp only [and_assoc]
theorem V.tx_eq (v : V) : v.tx ↔ v.s.size ≤ 140737488355328 ∧ txL v.l ∧ txM v.m := by cases v; rw [V.tx]; rfl
theorem tx_of_all : ∀ (n : Nat) (v : V), v.size ≤ n → v.sb → v.tx := by
 intro n
 induction n with
 | zero => intro v h; have := v.size_pos; omega
 | succ n ih =>
  intro v h hs
  have e := v.size_eq
  have hs' := (V.sb_eq v).1 hs
  refine (V.tx_eq v).2 ⟨hs'.1, (txL_iff _).2 fun x hx => ?_, (txM_iff _).2 fun p hp => ?_⟩
  ·have := mem_size hx
   exact ih x (by omega) ((sbL_iff _).1 hs'.2.2.1 x hx)
  ·have := mem_sizeM hp
   have h2 := (sbM_iff _).1 hs'.2.2.2 p hp
   exact ⟨h2.1, ih p.2 (by omega) h2.2⟩
theorem V.sb.tx {v : V} (h : v.sb) : v.tx := tx_of_all v.size v (Nat.le_refl _) h
theorem sb_of_all : ∀ (n : Nat) (v : V), v.size ≤ n → v.size ≤ 2000000000000 → v.tx → v.sb := by
 intro n
 induction n with
 | zero => intro v h; have := v.size_pos; omega
 | succ n ih =>
  intro v h hz hs
  have e := v.size_eq
  have h1 := len_le_sizeL v.l
  have h2 := len_le_sizeM v.m
  have hs' := (V.tx_eq v).1 hs
  refine (V.sb_eq v).2 ⟨hs'.1, ⟨by omega, by omega⟩, (sbL_iff _).2 fun x hx => ?_, (sbM_iff _).2 fun p hp => ?_⟩
  ·have := mem_size hx
   exact ih x (by omega) (by omega) ((txL_iff _).1 hs'.2.1 x hx)
  ·have := mem_sizeM hp
   have h2 := (txM_iff _).1 hs'.2.2 p hp
   exact ⟨h2.1, ih p.2 (by omega) (by omega) h2.2⟩
theorem V.tx.sb {v : V} (h : v.tx) (hz : v.size ≤ 2000000000000) : v.sb := sb_of_all v.size v (Nat.le_refl _) hz h
theorem null_tx : V.null.tx := (V.tx_eq _).2 ⟨by decide, trivial, trivial⟩
theorem vMap_tx {m : List (ByteArray × V)} (h : ∀ p ∈ m, p.1.size ≤ 140737488355328 ∧ p.2.tx) : (vMap m).tx := (V.tx_eq _).2 ⟨Nat.zero_le _, trivial, (txM_iff _).2 h⟩
theorem tx_m {v : V} (h : v.tx) {p : ByteArray × V} (hp : p ∈ v.m) : p.1.size ≤ 140737488355328 ∧ p.2.tx := (txM_iff _).1 ((V.tx_eq v).1 h).2.2 p hp
theorem strip_tx : ∀ (n : Nat) (v : V), v.tx → (stripN n v).tx := by
 intro n
 induction n with
 | zero => intro v h; exact h
 | succ n ih =>
  intro v h
  rw [stripN]
  split
  ·refine vMap_tx fun q hq => ?_
   obtain ⟨x, hx, e⟩ := stripM_mem hq
   have := tx_m h hx
   exact ⟨this.1, by rw [e]; exact ih x this.2⟩
  ·exact h
theorem over_tx : ∀ (n : Nat) (a b : V), b.size ≤ n → a.ord → b.ord → a.tx → b.tx → (overN n a b).tx := by
 intro n
 induction n with
 | zero => intro a b h; have := b.size_pos; omega
 | succ n ih =>
  intro a b hn ha hb hat hbt
  have hbe := b.size_eq
  rw [overN]
  split
  ·rw [← foldO_merge _ a.m b.m (Nat.le_refl _) ((V.ord_eq a).1 ha).2.2.1 ((V.ord_eq b).1 hb).2.2.1]
   refine vMap_tx ?_
   -- every value that a step meets has pairs in order
   have key : ∀ (b' a' : List (ByteArray × V)), (∀ p ∈ b', p.1.size ≤ 140737488355328 ∧ p.2.tx ∧ p.2.ord ∧ p.2.size ≤ n) → (∀ q ∈ a', q.1.size ≤ 140737488355328 ∧ q.2.tx ∧ q.2.ord) → (∀ p ∈ b', ∀ u : V, u.ord → (overN n u p.2).ord) → ∀ q ∈ foldO (overN n) a' b', q.1.size ≤ 140737488355328 ∧ q.2.tx := by
    intro b'
    induction b' with
    | nil => intro a' _ h _ q hq; exact ⟨(h q hq).1, (h q hq).2.1⟩
    | cons p b' ihb =>
     intro a' hb' ha' ho
     refine ihb (stepO (overN n) a' p) (fun q hq => hb' q (by simp [hq])) (fun q hq => ?_) (fun q hq => ho q (by simp [hq]))
     unfold stepO at hq
     have hp := hb' p (by simp)
     split at hq
     ·exact ha' q (List.mem_filter.1 hq).1
     ·rcases minsert_mem hq with rfl | hq
      ·have hu : ((mfind p.1 a').getD V.null).tx ∧ ((mfind p.1 a').getD V.null).ord := by
        cases hm : mfind p.1 a' with
        | none => exact ⟨null_tx, null_ord⟩
        | some u => exact (ha' _ (mfind_in hm)).2
       exact ⟨hp.1, ih _ _ hp.2.2.2 hu.2 hp.2.2.1 hu.1 hp.2.1, ho p (by simp) _ hu.2⟩
      ·exact ha' q hq
   have hsz : ∀ p ∈ b.m, p.2.size ≤ n := fun p hp => by have := mem_sizeM (p := p) hp; omega
   exact key b.m a.m (fun p hp => ⟨(tx_m hbt hp).1, (tx_m hbt hp).2, ((V.ord_eq b).1 hb).2.2.2 p hp, hsz p hp⟩) (fun q hq => ⟨(tx_m hat hq).1, (tx_m hat hq).2, ((V.ord_eq a).1 ha).2.2.2 q hq⟩) fun p hp u hu => (over_facts n u p.2 (hsz p hp) hu (((V.ord_eq b).1 hb).2.2.2 p hp)).1
  ·exact strip_tx _ b hbt
theorem nest_tx {x : V} (hx : x.tx) : ∀ l : List ByteArray, (∀ s ∈ l, s.size ≤ 140737488355328) → (nest x l).tx
 | [], _ => hx
 | s :: l, h => vMap_tx fun p hp => by
  rw [List.mem_singleton.1 hp]
  exact ⟨h s (by simp), nest_tx hx l fun t ht => h t (by simp [ht])⟩
def V.leafO (v : V) : Prop := v.ord ∧ v.tx ∧ v.size = 1 ∧ v.kind ≠ 5
theorem leaf_mk {k : Int} {b : Bool} {n : Int} {s : ByteArray} (hk : k ≠ 5) (hs : s.size ≤ 140737488355328) : (V.mk k b n s [] []).leafO :=
 ⟨(V.ord_eq _).2 ⟨fun h => absurd h hk, fun _ => rfl, List.Pairwise.nil, fun p h => by cases h⟩, (V.tx_eq _).2 ⟨hs, trivial, trivial⟩, by simp [V.size, sizeL, sizeM], hk⟩
theorem null_leaf : V.null.leafO := leaf_mk (by decide) (by decide)
theorem scal_leafO (s : ByteArray) (hs : s.size ≤ 140737488355328) : (scalP s).1.leafO := by
 unfold scalP
 split
 ·exact null_leaf
 ·split
  ·exact leaf_mk (by decide) (by decide)
  ·split
   ·exact leaf_mk (by decide) hs
   ·split
    ·exact leaf_mk (by decide) (by decide)
    ·exact null_leaf
theorem dbl_lenO : ∀ (n : Nat) (l out : List UInt8) (a b : List UInt8), l.length ≤ n → dbl l out = some (a, b) → a.length + b.length ≤ l.length + out.length := by
 intro n
 induction n with
 | zero =>
  intro l out a b h e
  cases l with
  | nil => cases e
  | cons c l => simp at h
 | succ n ih =>
  intro l out a b h e
  cases l with
  | nil => cases e
  | cons c l =>
   rw [dbl_cons] at e
   simp only [List.length_cons] at h ⊢
   split at e
   ·cases e; omega
   ·split at e
    ·cases l with
     | nil => cases e
     | cons d l =>
      simp only [List.length_cons] at h ⊢
      simp only at e
      split at e
      ·have := ih l _ a b (by omega) e; simp at this; omega
      ·split at e
       ·have := ih l _ a b (by omega) e; simp at this; omega
       ·split at e
        ·have := ih l _ a b (by omega) e; simp at this; omega
        ·cases e
    ·split at e
     ·cases e
     ·have := ih l _ a b (by omega) e; simp at this; omega
theorem sgl_lenO : ∀ (n : Nat) (l out : List UInt8) (a b : List UInt8), l.length ≤ n → sgl l out = some (a, b) → a.length + b.length ≤ l.length + out.length := by
 intro n
 induction n with
 | zero =>
  intro l out a b h e
  cases l with
  | nil => cases e
  | cons c l => simp at h
 | succ n ih =>
  intro l out a b h e
  cases l with
  | nil => cases e
  | cons c l =>
   rw [sgl_cons] at e
   simp only [List.length_cons] at h ⊢
   split at e
   ·cases l with
    | nil => cases e; simp
    | cons d l =>
     simp only [List.length_cons] at h ⊢
     simp only at e
     split at e
     ·have := ih l _ a b (by omega) e; simp at this; omega
     ·cases e; simp only [List.length_cons]; omega
   ·have := ih l _ a b (by omega) e; simp at this; omega
theorem word_leaf (s : ByteArray) (hs : s.size ≤ 140737488355328) : (wordP s).1.leafO := by
 unfold wordP
 split
 ·unfold quoP
  split
  ·exact null_leaf
  ·rename_i a b hu
   split
   ·refine leaf_mk (by decide) ?_
    have hl : a.length + b.length ≤ s.data.toList.length := by
     unfold unq at hu
     cases hL : s.data.toList with
     | nil => rw [hL] at hu; cases hu
     | cons c l =>
      rw [hL] at hu
      simp only at hu
      simp only [List.length_cons]
      split at hu
      ·have := dbl_lenO l.length l [] a b (Nat.le_refl _) hu; simp at this; omega
      ·split at hu
       ·have := sgl_lenO l.length l [] a b (Nat.le_refl _) hu; simp at this; omega
       ·cases hu
    have e : s.data.toList.length = s.size := rfl
    show a.toArray.size ≤ _
    rw [List.size_toArray]
    omega
   ·exact null_leaf
 ·exact scal_leafO s hs
def setP (v : V) (s : ByteArray) : V × Int :=
 if (cutB s 61).2.2 = false then (V.null, 10)
 else if (pathP (cutB s 61).1).2 ≠ 0 then (V.null, (pathP (cutB s 61).1).2)
 else if (wordP (cutB s 61).2.1).2 ≠ 0 then (V.null, (wordP (cutB s 61).2.1).2)
 else if (overN 100 v (nest (wordP (cutB s 61).2.1).1 (pathP (cutB s 61).1).1)).checkC ≠ 0 then (V.null, (overN 100 v (nest (wordP (cutB s 61).2.1).1 (pathP (cutB s 61).1).1)).checkC)
 else (overN 100 v (nest (wordP (cutB s 61).2.1).1 (pathP (cutB s 61).1).1), 0)
end Go.Proofs.YtnpkejnaeemgjaaGreatDoor
/-
 A set of values: the program's, walked.
-/
namespace Go.Proofs.YtnpkejnaeemgjaaGreatDoor
open Go.RowKit
theorem cutB_size (s : ByteArray) (c : UInt8) : (cutB s c).1.size ≤ s.size ∧ (cutB s c).2.1.size ≤ s.size := by
 unfold cutB
 split
 ·exact ⟨Nat.le_refl _, Nat.zero_le _⟩
 ·refine ⟨?_, ?_⟩ <;> simp only [ByteArray.size_extract] <;> omega
theorem pathP_facts (s : ByteArray) : (pathP s).1.length < 16 ∧ (∀ x ∈ (pathP s).1, x.size ≤ s.size) ∧ ((pathP s).2 = 0 → (pathP s).1 ≠ [] ∧ (pathP s).1.all wdB = true) := by
 unfold pathP
 split
 ·exact ⟨by simp, (fun x hx => by cases hx), (fun h => absurd h (by decide))⟩
 ·split
  ·rename_i h16 ha
   refine ⟨by simpa using h16, fun x hx => splB_mem hx, fun _ => ⟨fun e => ?_, ha⟩⟩
   have := splB_len s
   simp only at e
   rw [e] at this
   simp at this
  ·exact ⟨by simp, (fun x hx => by cases hx), (fun h => absurd h (by decide))⟩
theorem set_a (hD : DropOk) (v : V) (s : ByteArray) (ho : v.ord) (ht : v.tx) (hv : v.size ≤ 1000000) (hs : s.size ≤ 1000000) : AC Tryz.prog 21 [(vA (v)), .str s] (.tup [(vA ((setP v s).1)), .int .i64 (setP v s).2]) := by
 obtain ⟨hz1, hz2⟩ := cutB_size s 61
 have hC := cut_a s 61 (by omega)
 have hPa := pathParse_a (cutB s 61).1 (by omega)
 have hW := valWord_a (cutB s 61).2.1 (by omega)
 have hL := word_leaf (cutB s 61).2.1 (by omega)
 obtain ⟨hp1, hp2, hp3⟩ := pathP_facts (cutB s 61).1
 have hp4 : ∀ x ∈ (pathP (cutB s 61).1).1, x.size ≤ 140737488355328 := fun x hx => by have := hp2 x hx; omega
 unfold setP
 generalize (cutB s 61).1 = key at *
 generalize (cutB s 61).2.1 = word at *
 generalize (cutB s 61).2.2 = ok at *
 generalize pathP key = pe at *
 generalize wordP word = xe at *
 obtain ⟨l, e⟩ := pe
 obtain ⟨x, e2⟩ := xe
 dsimp only at *
 obtain ⟨hxo, hxt, hxs, hxk⟩ := hL
 have hns := nest_size x l
 have hno := nest_ord hxo l
 have hnt := nest_tx hxt l hp4
 have hov := over_facts 100 v (nest x l) (by omega) ho hno
 have hot := over_tx 100 v (nest x l) (by omega) ho hno ht hnt
 have hO := over_a hD 100 v (nest x l) (by omega) ho hno (by omega) (by omega)
 have hCk := treeCheck_a (overN 100 v (nest x l)) (hot.sb (by omega)) (by omega)
 generalize overN 100 v (nest x l) = out at *
 have hM := treeMap_a [] (by simp [sizeM])
 refine kE Tryz.func21 a_values_Set_ok a_values_Set_cb fun E hE => ?_
 refine kW ?_
 refine kQ [.v (.tup [.str key, .str word, .bool ok])] ?_
 refine kW ?_
 refine kC (fun hb => ?_) fun hb => ?_
 ·have hok : ok = false := by simpa using hb
  subst hok
  refine kW ?_
  refine AK.ret ⟨_, rfl, ?_⟩
  rw [if_pos rfl]
  rfl
 have hok : ok = true := by simpa using hb
 subst hok
 rw [if_neg (by decide)]
 refine kW ?_
 refine kQ [.v (.tup [.lst .any 1 (rowsP l), .int .i64 e])] ?_
 refine kW ?_
 refine kC (fun hb => ?_) fun hb => ?_
 ·have he : e ≠ 0 := by simpa using hb
  refine kW ?_
  refine AK.ret ⟨_, rfl, ?_⟩
  rw [if_pos he]
  rfl
 have he : e = 0 := by simpa using hb
 subst he
 rw [if_neg (by decide)]
 refine kW ?_
 refine kQ [.v (.tup [(vA (x)), .int .i64 e2])] ?_
 refine kW ?_
 refine kC (fun hb => ?_) fun hb => ?_
 ·have he : e2 ≠ 0 := by simpa using hb
  refine kW ?_
  refine AK.ret ⟨_, rfl, ?_⟩
  rw [if_pos he]
  rfl
 have he : e2 = 0 := by simpa using hb
 subst he
 rw [if_neg (by decide)]
 have hPp := pathPut_a x (by omega) hxo l (vMap []) (by omega) (.inr rfl) (.inl (hp3 rfl).1)
 refine kW ?_
 refine kQ [.v ((vA ((vMap [])))), .v ((vA ((nest x l)))), .v ((vA (out)))] ?_
 refine kW ?_
 refine kQ [.v (.int .i64 out.checkC)] ?_
 refine kW ?_
 refine kC (fun hb => ?_) fun hb => ?_
 ·have he : out.checkC ≠ 0 := by simpa using hb
  refine kW ?_
  refine AK.ret ⟨_, rfl, ?_⟩
  rw [if_pos he]
  rfl
 ·have he : out.checkC = 0 := by simpa using hb
  refine kW ?_
  refine AK.ret ⟨_, rfl, ?_⟩
  rw [if_neg (by rw [he]; decide)]
  rfl
theorem prB_size (v : V) (hn : Nb v) : (prB v).size ≤ 30 + 2 * v.s.size := by
 have h1 : (itB v.n).size ≤ 21 := Lib.itoa_length_le v.n hn.num.1 hn.num.2
 have h2 := wordB_size v.s
 have e1 : wTrue.size = 4 := rfl
 have e2 : wFalse.size = 5 := rfl
 have e3 : wNull.size = 4 := rfl
 have e4 : (⟨#[91, 93]⟩ : ByteArray).size = 2 := rfl
 have e5 : (⟨#[123, 125]⟩ : ByteArray).size = 2 := rfl
 unfold prB
 repeat' split
 all_goals omega
theorem w_pos (v : V) : 1 + v.s.size ≤ v.w := by rw [V.w_eq]; omega
theorem lay_bound : ∀ (N : Nat) (v : V) (k : Nat), v.size ≤ N → Nb v → k + 2 * v.size ≤ 12200 → (v.lay wordB prB k).size + 20000 ≤ v.w * 20000
 | 0, v, k, h, _, _ => by have := v.size_pos; omega
 | N + 1, v, k, h, hn, hk => by
  have ih := lay_bound N
  have hsz := v.size_eq
  have htail : ∀ x : V, x.size ≤ N → Nb x → k + 2 + 2 * x.size ≤ 12200 → (x.tail wordB prB k).size ≤ x.w * 20000 - 12300 := fun x hx hnx hkx => by
   have hw := w_pos x
   have z1 : (⟨#[32]⟩ : ByteArray).size = 1 := rfl
   have z2 : (⟨#[10]⟩ : ByteArray).size = 1 := rfl
   unfold V.tail
   split
   ·have := prB_size x hnx
    rw [ByteArray.size_append, ByteArray.size_append]
    omega
   ·have := ih x (k + 2) hx hnx (by omega)
    rw [ByteArray.size_append]
    omega
  have key1 : ∀ l : List V, (∀ x ∈ l, x.size ≤ N ∧ Nb x ∧ k + 2 + 2 * x.size ≤ 12200) → (layL wordB prB l k).size ≤ wL l * 20000 := by
   intro l
   induction l with
   | nil => intro _; rw [layL]; exact Nat.zero_le _
   | cons x l ih2 =>
    intro hl
    obtain ⟨a, b, c⟩ := hl x (by simp)
    have h1 := htail x a b c
    have h2 := ih2 fun y hy => hl y (by simp [hy])
    have hw := w_pos x
    have z1 : (⟨#[45]⟩ : ByteArray).size = 1 := rfl
    rw [layL_cons, ByteArray.size_append, ByteArray.size_append, ByteArray.size_append, padB_size, wL]
    omega
  have key2 : ∀ m : List (ByteArray × V), (∀ p ∈ m, p.2.size ≤ N ∧ Nb p.2 ∧ k + 2 + 2 * p.2.size ≤ 12200) → (layM wordB prB m k).size ≤ wM m * 20000 := by
   intro m
   induction m with
   | nil => intro _; rw [layM]; exact Nat.zero_le _
   | cons p m ih2 =>
    intro hm
    obtain ⟨y, x⟩ := p
    obtain ⟨a, b, c⟩ := hm (y, x) (by simp)
    have h1 := htail x a b c
    have h2 := ih2 fun q hq => hm q (by simp [hq])
    have h3 := wordB_size y
    have hw := w_pos x
    have z1 : (⟨#[58]⟩ : ByteArray).size = 1 := rfl
    rw [layM_cons, ByteArray.size_append, ByteArray.size_append, ByteArray.size_append, ByteArray.size_append, padB_size, wM]
    omega
  have h1 := key1 v.l fun x hx => by have := mem_sizeL hx; exact ⟨by omega, hn.l x hx, by omega⟩
  have h2 := key2 v.m fun p hp => by have := mem_sizeM hp; exact ⟨by omega, hn.m p hp, by omega⟩
  rw [V.lay_eq, ByteArray.size_append, V.w_eq]
  omega
theorem padB_snoc (i : Nat) : padB i ++ (⟨#[32]⟩ : ByteArray) = padB (i + 1) := ba_ext (by rw [ba_app_list]; show List.replicate i 32 ++ [32] = List.replicate (i + 1) 32; rw [List.replicate_succ'])
theorem blanks_a (k : Nat) (hk : k ≤ 100000) : AC Tryz.prog 32 [.int .i64 k] (.str (padB k)) := by
 refine kE Tryz.func32 a_ref05_blanks_ok a_ref05_blanks_cb fun E hE => ?_
 refine kW ?_
 refine AK.loopI (fun i : Nat => (frOf [(0, .int .i64 k), (3, .str (padB i)), (4, .int .i64 i)], ⟨boxOf [], fun _ => 0⟩)) (fun i => i ≤ k) (fun i => k - i) 0 (by omega) (Weak.intro ⟨kI, kI, kI, trivial⟩ trivial rfl rfl) fun i hi => ?_
 have hp := padB_size i
 have hs := padB_snoc i
 have z : (⟨#[32]⟩ : ByteArray).size = 1 := rfl
 refine kW ?_
 refine kC (fun hb => ?_) fun hb => ?_
 ·have hlt : i < k := by
   have : (i : Int) < (k : Int) := by simpa using hb
   omega
  refine kW ?_
  refine kQ [] ?_
  refine kW ?_
  exact AK.lp ⟨i + 1, by omega, Weak.intro ⟨kI, ⟨_, rfl, .of_eq (congrArg AV.str hs)⟩, kU, trivial⟩ trivial rfl rfl, by omega⟩
 ·have hlt : i = k := by
   have : ¬ (i : Int) < (k : Int) := by simpa using hb
   omega
  subst hlt
  refine AK.exit rfl ?_
  refine kW ?_
  refine AK.ret ⟨_, rfl, ?_⟩
  rfl
theorem leaf_dec (v : V) : (decide (((rowsV v.l).length : Int) = 0) && decide (((rowsM v.m).length : Int) = 0)) = v.leaf := by
 rw [rowsV_len, rowsM_len, V.leaf]
 cases v.l <;> cases v.m <;> simp <;> omega
theorem empty_a (v : V) : AC Tryz.prog 18 [(vA (v))] (.bool v.leaf) := by
 have h := leaf_dec v
 refine kE Tryz.func18 a_ref05_empty_ok a_ref05_empty_cb fun E hE => ?_
 refine kW ?_
 refine kQ [] ?_
 refine kW ?_
 refine AK.ret ⟨_, rfl, ?_⟩
 exact congrArg AV.bool h
theorem key_a (y : ByteArray) (hy : y.size ≤ 1000000) : AC Tryz.prog 52 [.str y] (.str (wordB y)) := by
 have h := refWord_a y (by omega)
 refine kE Tryz.func52 a_ref05_key_ok a_ref05_key_cb fun E hE => ?_
 refine kW ?_
 refine kQ [.v (.str (wordB y))] ?_
 refine kW ?_
 refine AK.ret ⟨_, rfl, ?_⟩
 rfl
def LayOk (N : Nat) : Prop := ∀ (v : V) (k : Nat), v.size ≤ N → Gd v → v.w ≤ 60000 → k + 2 * v.size ≤ 12200 → AC Tryz.prog 20 [(vA (v)), .int .i64 k] (.str (v.lay wordB prB k))
theorem tail_ra {N : Nat} (hN : LayOk N) (x : V) (k : Nat) (hx : x.size ≤ N) (hG : Gd x) (hw : x.w ≤ 60000) (hk : k + 2 + 2 * x.size ≤ 12200) : AC Tryz.prog 51 [(vA (x)), .int .i64 k] (.str (x.tail wordB prB k)) := by
 have hE := empty_a x
 have hps := prB_size x hG.2
 have ht := hG.text
 have hb1 := lay_bound x.size x (k + 2) (Nat.le_refl _) hG.2 (by omega)
 have z1 : (⟨#[32]⟩ : ByteArray).size = 1 := rfl
 have z2 : (⟨#[10]⟩ : ByteArray).size = 1 := rfl
 have z3 : ((⟨#[32]⟩ : ByteArray) ++ prB x).size = 1 + (prB x).size := by rw [ByteArray.size_append]; rfl
 have hlay := hN x (k + 2) hx hG hw (by omega)
 have hP := fun h => refPrintAll_a x hG h
 have hw2 : IntKind.i64.wrap ((k : Int) + 2) = ((k + 2 : Nat) : Int) := by rw [wrap_in (by omega) (by omega)]; omega
 unfold V.tail
 refine kE Tryz.func51 a_ref05_tail_ok a_ref05_tail_cb fun E hE => ?_
 refine kW ?_
 refine kQ [.v (.bool x.leaf)] ?_
 refine kC (fun hb => ?_) fun hb => ?_
 ·have hP := hP hb
  rw [if_pos hb]
  refine kW ?_
  refine kQ [.v (.str (prB x))] ?_
  refine kW ?_
  refine AK.ret ⟨_, rfl, ?_⟩
  rfl
 ·rw [if_neg (by rw [hb]; simp)]
  refine kW ?_
  refine kP [.v (.str (x.lay wordB prB (k + 2)))] ?_ ?_
  ·((repeat' apply And.intro) <;> first | exact kD | (intro hgd; refine ⟨?_, kG⟩; (repeat' apply And.intro) <;> first | exact kD | skip) | skip)
   all_goals first | (rw [hw2]; exact hlay) | skip
  refine kW ?_
  refine AK.ret ⟨_, rfl, ?_⟩
  rfl
theorem null_checkC : V.null.checkC = 0 := by decide +kernel
theorem parse_or (s : ByteArray) : ((parseL s).2 = 0 ∧ (parseL s).1.checkC = 0) ∨ ((parseL s).2 ≠ 0 ∧ (parseL s).1 = V.null) := by
 unfold parseL parseT
 split
 ·exact .inr ⟨by decide, rfl⟩
 split
 ·exact .inr ⟨by decide, rfl⟩
 split
 ·exact .inl ⟨rfl, null_checkC⟩
 dsimp only
 split
 ·rename_i h; exact .inr ⟨h, rfl⟩
 split
 ·exact .inr ⟨by decide, rfl⟩
 split
 ·rename_i h; exact .inr ⟨h, rfl⟩
 ·rename_i h; exact .inl ⟨rfl, by simpa using h⟩
theorem parse_good (s : ByteArray) : (parseL s).1.good ∧ (parseL s).1.size ≤ 4096 := by
 rcases parse_or s with ⟨_, h⟩ | ⟨_, h⟩
 ·exact ⟨(V.check_good h).1, (V.check_good h).2.1⟩
 ·rw [h]; exact ⟨(V.check_good null_checkC).1, (V.check_good null_checkC).2.1⟩
theorem good_key {v : V} (h : v.good) {p : ByteArray × V} (hp : p ∈ v.m) : p.1.size ≤ 256 ∧ p.2.good := by
 have h1 := (goodM_iff v.m).1 ((V.good_eq v).1 h).2.2.2.1 p hp
 have := h1.1
 simp only [keyB, Bool.and_eq_true, decide_eq_true_eq] at this
 exact ⟨this.2.2, h1.2⟩
theorem text_size {s : ByteArray} (h : textB s = true) : s.size ≤ 65536 := by
 simp only [textB, Bool.and_eq_true, decide_eq_true_eq] at h
 exact h.2
theorem good_sb : ∀ (n : Nat) (v : V), v.size ≤ n → n ≤ 1000000 → v.good → v.sb := by
 intro n
 induction n with
 | zero => intro v h; have := v.size_pos; omega
 | succ n ih =>
  intro v h hn hg
  have hve := v.size_eq
  have h1 := len_le_sizeM v.m
  have h2 := len_le_sizeL v.l
  have he := (V.good_eq v).1 hg
  have ht := text_size he.2.1
  refine (V.sb_eq v).2 ⟨by omega, ⟨by omega, by omega⟩, (sbL_iff _).2 fun x hx => ?_, (sbM_iff _).2 fun p hp => ?_⟩
  ·have := mem_sizeL hx
   exact ih x (by omega) (by omega) (good_l hg hx)
  ·have := mem_sizeM hp
   have hk := (good_key hg hp).1
   exact ⟨by omega, ih p.2 (by omega) (by omega) (good_key hg hp).2⟩
def overV (a b : V) : V := overN b.size a b
def ofTexts : V → List ByteArray → V × Int
 | v, [] => (v, 0)
 | v, s :: l => if (parseL s).2 ≠ 0 then (V.null, (parseL s).2) else if (parseL s).1.kind = 0 then ofTexts v l else if (parseL s).1.kind ≠ 5 then (V.null, 8) else if (overV v (parseL s).1).checkC ≠ 0 then (V.null, (overV v (parseL s).1).checkC) else ofTexts (overV v (parseL s).1) l
def ofSets : V → List ByteArray → V × Int
 | v, [] => (v, 0)
 | v, s :: l => if (setP v s).2 ≠ 0 then (V.null, (setP v s).2) else ofSets (setP v s).1 l
def ofP (own : V) (texts sets : List ByteArray) : V × Int := if (ofTexts (overV (vMap []) own) texts).2 ≠ 0 then (V.null, (ofTexts (overV (vMap []) own) texts).2) else ofSets (ofTexts (overV (vMap []) own) texts).1 sets
theorem good_tx {v : V} (h : v.good) (hz : v.size ≤ 1000000) : v.tx := (good_sb v.size v (Nat.le_refl _) hz h).tx
theorem overV_facts {a b : V} (ha : a.ord) (hb : b.ord) (ta : a.tx) (tb : b.tx) : (overV a b).ord ∧ (overV a b).tx ∧ (overV a b).size + 1 ≤ a.size + 2 * b.size := by
 obtain ⟨h1, h2⟩ := over_facts b.size a b (Nat.le_refl _) ha hb
 exact ⟨h1, over_tx b.size a b (Nat.le_refl _) ha hb ta tb, h2⟩
theorem nb_map {m : List (ByteArray × V)} (h : ∀ p ∈ m, Nb p.2) : Nb (vMap m) := .mk (by omega) (by omega) (fun x hx => by cases hx) h
theorem strip_nb : ∀ (n : Nat) (v : V), v.size ≤ n → Nb v → Nb (stripN n v)
 | 0, v, h, _ => by have := v.size_pos; omega
 | n + 1, v, h, hn => by
  have hve := v.size_eq
  rw [stripN]
  split
  ·refine nb_map fun q hq => ?_
   obtain ⟨x, hx, hk, e⟩ := stripM_ne hq
   have := mem_sizeM hx
   rw [e]
   exact strip_nb n x (by dsimp only at this; omega) (hn.m _ hx)
  ·exact hn
theorem over_nb : ∀ (n : Nat) (a b : V), b.size ≤ n → Nb a → Nb b → Nb (overN n a b)
 | 0, a, b, h, _, _ => by have := b.size_pos; omega
 | n + 1, a, b, h, ha, hb => by
  have hve := b.size_eq
  rw [overN]
  split
  ·refine nb_map fun q hq => ?_
   rcases mergeO_mem hq with h1 | ⟨x, z, h1, h2, h3, h4⟩
   ·exact ha.m q h1
   ·have := mem_sizeM h1
    rw [h3]
    have hx : Nb x := hb.m _ h1
    rcases h4 with rfl | ⟨k, hk⟩
    ·rw [over_null]
     exact strip_nb n x (by dsimp only at this; omega) hx
    ·exact over_nb n z x (by dsimp only at this; omega) (ha.m _ hk) hx
  ·exact strip_nb _ _ h hb
theorem overV_empty {b : V} (h5 : b.kind = 5) : overV (vMap []) b = stripN b.size b := by
 unfold overV
 have := b.size_pos
 obtain ⟨n, hn⟩ : ∃ n, b.size = n + 1 := ⟨b.size - 1, by omega⟩
 rw [hn, over_empty n b h5]
theorem texts_one {v b : V} {s : ByteArray} {l : List ByteArray} (h : parseL s = (b, 0)) (h5 : b.kind = 5) : ofTexts v (s :: l) = if (overV v b).checkC ≠ 0 then (V.null, (overV v b).checkC) else ofTexts (overV v b) l := by
 rw [ofTexts, h, if_neg (by simp), if_neg (by rw [h5]; decide), if_neg (by rw [h5]; simp)]
theorem texts_null {v : V} {s : ByteArray} {l : List ByteArray} (h : parseL s = (V.null, 0)) : ofTexts v (s :: l) = ofTexts v l := by
 rw [ofTexts, h, if_neg (by simp), if_pos (show V.null.kind = 0 from rfl)]
def depB (ds : List (List Nat)) : Nat → Nat → Nat → Bool
 | 0, _, _ => false
 | n + 1, j, i => match ds[j]? with
  | some l => l.any fun e => Nat.beq e i || depB ds n e i
  | none => false
theorem depsOf_at (ops : Array Oper) (j : Nat) : (depsOf ops)[j]? = (ops[j]?).map fun o => (o.after.toList.filter fun e => Region.binds .any e).map (·.on) := by
 rw [depsOf, List.getElem?_map, Array.getElem?_toList]
theorem depB_eq (ops : Array Oper) : ∀ (n j i : Nat), depB (depsOf ops) n j i = depN ops n j i
 | 0, _, _ => rfl
 | n + 1, j, i => by
  unfold depB depN
  rw [depsOf_at]
  cases ops[j]? with
  | none => rfl
  | some o =>
   simp only [Option.map_some]
   rw [List.any_map, List.any_filter, ← Array.any_toList]
   congr 1
   funext e
   simp only [Function.comp]
   rw [depB_eq ops n e.on i]
def freeD (ds : List (List Nat)) (S : List (GI × Option RS)) (listed : Array Bool) (i : Nat) : Bool :=
 match S[i]? with
 | some (xi, _) => (List.range ds.length).all fun j => Nat.beq j i || listed.getD j true || depB ds ds.length j i || (match S[j]? with
  | some (xj, _) => indep xi xj
  | none => false)
 | none => false
def anyE (P : Program) (ds : List (List Nat)) (S : List (GI × Option RS)) (R : Fr → St → Prop) : Nat → Array Bool → Fr → St → Prop
 | 0, listed, fr, st => match rdy ds listed with
  | [] => R fr st
  | _ => False
 | n + 1, listed, fr, st => match rdy ds listed with
  | [] => R fr st
  | l => match l.find? (freeD ds S listed) with
   | some i => match S[i]? with
    | none => False
    | some (x, rs) => match gstep P x rs fr st with
     | none => False
     | some (fr', st', p) => p ∧ anyE P ds S R n (listed.setIfInBounds i true) fr' st'
   | none => allP (fun i => match S[i]? with
    | none => False
    | some (x, rs) => match gstep P x rs fr st with
     | none => False
     | some (fr', st', p) => p ∧ anyE P ds S R n (listed.setIfInBounds i true) fr' st') l
theorem anyA_of_anyE {P : Program} {ops : Array Oper} {S : List (GI × Option RS)} {R : Fr → St → Prop} : ∀ (n : Nat) (listed : Array Bool) (fr : Fr) (st : St), ClosedL ops listed → anyE P (depsOf ops) S R n listed fr st → anyA P ops S R n listed fr st
 | 0, listed, fr, st, _, h => by
  unfold anyE at h
  split at h
  ·rename_i he
   refine ⟨List.eq_nil_iff_forall_not_mem.2 fun j hj => ?_, h⟩
   have := mem_rdy.2 hj
   rw [he] at this
   cases this
  ·exact h.elim
 | n + 1, listed, fr, st, hcl, h => by
  unfold anyE at h
  split at h
  ·rename_i he
   refine ⟨fun _ => h, fun j hj => ?_⟩
   have := mem_rdy.2 hj
   rw [he] at this
   cases this
  ·rename_i hne
   split at h
   ·rename_i i hfi
    have hir := mem_rdy.1 (List.mem_of_find?_eq_some hfi)
    have hfree := List.find?_some hfi
    split at h
    ·exact h.elim
    ·rename_i x rs hS
     split at h
     ·exact h.elim
     ·rename_i fr' st' p hg
      unfold freeD at hfree
      rw [hS] at hfree
      simp only at hfree
      refine anyA_first hS n listed fr fr' st st' p hcl (fun j xj rj oj hSj hoj hji hun hno => ?_) hir hg h.1 (anyA_of_anyE n _ fr' st' (hcl.set hir) h.2)
      have hj : j < (depsOf ops).length := by
       have := (Array.getElem?_eq_some_iff.1 hoj).1
       simpa [depsOf] using this
      have hz : (depsOf ops).length = ops.size := by simp [depsOf]
      have h3 := List.all_eq_true.1 hfree j (by simpa using hj)
      rw [hSj, depB_eq, hz] at h3
      simp only [Bool.or_eq_true] at h3
      rcases h3 with ((h3 | h3) | h3) | h3
      ·exact absurd (Nat.eq_of_beq_eq_true h3) hji
      ·rw [hun] at h3; cases h3
      ·rw [hno] at h3; cases h3
      ·exact h3
   ·refine ⟨fun h0 => ?_, fun j hj => ?_⟩
    ·exfalso
     refine hne (List.eq_nil_iff_forall_not_mem.2 fun j hj => ?_)
     have := mem_rdy.1 hj
     rw [h0] at this
     cases this
    ·have h2 := allP_mem h j (mem_rdy.2 hj)
     split at h2
     ·exact h2.elim
     ·rename_i x rs hS
      split at h2
      ·exact h2.elim
      ·rename_i fr' st' p hg
       exact ⟨x, rs, fr', st', p, hS, hg, h2.1, anyA_of_anyE n _ fr' st' (hcl.set hj) h2.2⟩
theorem AK.regaE {P : Program} {E : Env} {Q : Exit → Fr → St → Prop} {k : List AItem} {fr : Fr} {st : St} (hm : P.follows .mixedOrders = true) {l : List GI} {ds : List (List Nat)} (rs : List RS) (f0 : Fr) (s0 : St) (hA : anyE P ds (mkS l rs) (fun f s => Weak f s f0 s0) ds.length (Array.replicate ds.length false) fr st) (h : AK P E Q k f0 s0) : AK P E Q (.c (.rega l ds) :: k) fr st := by
 intro hd mu c G ac w hc _ hC
 cases c with
 | region id ops dr =>
  simp only [codeAC] at hc
  split at hc
  ·rename_i l' hl
   split at hc
   ·split at hc <;> cases hc
   ·split at hc
    ·cases hc
     refine wp_region_any hm ?_
     have hz : (depsOf ops).length = ops.size := by simp [depsOf]
     rw [hz] at hA
     refine wpAny_of_anyA (mkS_map _ _) (at_of hl) hd (fun f s G' a' w' hR hc => ?_) _ _ fr st G ac _ (hC.same ?_) (anyA_of_anyE _ _ _ _ (fun j o _ hj => by simp [Array.getD_eq_getD_getElem?, Array.getElem?_replicate] at hj; split at hj <;> simp at hj) hA)
     ·obtain ⟨G2, hC2⟩ := hR E G' a' w' hc
      exact ⟨G2, f0, s0, hC2, h⟩
     ·exact (Below.refl w.heap.size w).drew
    ·cases hc
  ·cases hc
 | cond x t e => simp only [codeAC] at hc; split at hc <;> cases hc
 | seq x y => simp only [codeAC] at hc; split at hc <;> cases hc
 | block id b => simp only [codeAC] at hc; split at hc <;> cases hc
 | loop b => simp only [codeAC] at hc; split at hc <;> cases hc
 | _ => cases hc
end Go.Proofs.YtnpkejnaeemgjaaGreatDoor
