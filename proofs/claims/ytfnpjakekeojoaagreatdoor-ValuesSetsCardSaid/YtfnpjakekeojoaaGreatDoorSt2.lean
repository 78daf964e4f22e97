/-
  A set of values: plainly.
-/
import Derived.Test.YtfnpjakekeojoaaGreatDoorOvP
import Derived.Test.YtfnpjakekeojoaaGreatDoorVl3
import Derived.Test.YtfnpjakekeojoaaGreatDoorOv1
import Derived.Test.YtfnpjakekeojoaaGreatDoorVt3
namespace Go.Proofs.YtfnpjakekeojoaaGreatDoor
set_option linter.unusedSimpArgs false
set_option linter.unusedVariables false
open Go.RowKit

mutual
/-- its texts are no longer than a text may be -/
def V.tx : V → Prop
  | .mk _ _ _ s l m => s.size ≤ 140737488355328 ∧ txL l ∧ txM m
def txL : List V → Prop
  | [] => True
  | x :: l => x.tx ∧ txL l
def txM : List (ByteArray × V) → Prop
  | [] => True
  | (y, x) :: m => y.size ≤ 140737488355328 ∧ x.tx ∧ txM m
end
theorem txL_iff (l : List V) : txL l ↔ ∀ x ∈ l, x.tx := by
  induction l with
  | nil => simp [txL]
  | cons x l ih => simp [txL, ih]
theorem txM_iff (m : List (ByteArray × V)) : txM m ↔ ∀ p ∈ m, p.1.size ≤ 140737488355328 ∧ p.2.tx := by
  induction m with
  | nil => simp [txM]
  | cons p m ih => obtain ⟨y, x⟩ := p; rw [txM, ih, List.forall_mem_cons]; simp only [and_assoc]
theorem V.tx_eq (v : V) : v.tx ↔ v.s.size ≤ 140737488355328 ∧ txL v.l ∧ txM v.m := by cases v; rw [V.tx]; rfl
theorem tx_of_all : ∀ (n : Nat) (v : V), v.size ≤ n → v.sb → v.tx := by
  intro n
  induction n with
  | zero => intro v h; have := v.size_pos; omega
  | succ n ih =>
    intro v h hs
    have e := v.size_eq
    have hs' := (V.sb_eq v).1 hs
    refine (V.tx_eq v).2 ⟨hs'.1, (txL_iff _).2 fun x hx => ?_, (txM_iff _).2 fun p hp => ?_⟩
    · have := mem_size hx
      exact ih x (by omega) ((sbL_iff _).1 hs'.2.2.1 x hx)
    · have := mem_sizeM hp
      have h2 := (sbM_iff _).1 hs'.2.2.2 p hp
      exact ⟨h2.1, ih p.2 (by omega) h2.2⟩
theorem V.sb.tx {v : V} (h : v.sb) : v.tx := tx_of_all v.size v (Nat.le_refl _) h
theorem sb_of_all : ∀ (n : Nat) (v : V), v.size ≤ n → v.size ≤ 2000000000000 → v.tx → v.sb := by
  intro n
  induction n with
  | zero => intro v h; have := v.size_pos; omega
  | succ n ih =>
    intro v h hz hs
    have e := v.size_eq
    have h1 := len_le_sizeL v.l
    have h2 := len_le_sizeM v.m
    have hs' := (V.tx_eq v).1 hs
    refine (V.sb_eq v).2 ⟨hs'.1, ⟨by omega, by omega⟩, (sbL_iff _).2 fun x hx => ?_, (sbM_iff _).2 fun p hp => ?_⟩
    · have := mem_size hx
      exact ih x (by omega) (by omega) ((txL_iff _).1 hs'.2.1 x hx)
    · have := mem_sizeM hp
      have h2 := (txM_iff _).1 hs'.2.2 p hp
      exact ⟨h2.1, ih p.2 (by omega) (by omega) h2.2⟩
theorem V.tx.sb {v : V} (h : v.tx) (hz : v.size ≤ 2000000000000) : v.sb := sb_of_all v.size v (Nat.le_refl _) hz h
theorem null_tx : V.null.tx := (V.tx_eq _).2 ⟨by decide, trivial, trivial⟩
theorem vMap_tx {m : List (ByteArray × V)} (h : ∀ p ∈ m, p.1.size ≤ 140737488355328 ∧ p.2.tx) : (vMap m).tx := (V.tx_eq _).2 ⟨Nat.zero_le _, trivial, (txM_iff _).2 h⟩
theorem tx_m {v : V} (h : v.tx) {p : ByteArray × V} (hp : p ∈ v.m) : p.1.size ≤ 140737488355328 ∧ p.2.tx := (txM_iff _).1 ((V.tx_eq v).1 h).2.2 p hp
theorem strip_tx : ∀ (n : Nat) (v : V), v.tx → (stripN n v).tx := by
  intro n
  induction n with
  | zero => intro v h; exact h
  | succ n ih =>
    intro v h
    rw [stripN]
    split
    · refine vMap_tx fun q hq => ?_
      obtain ⟨x, hx, e⟩ := stripM_mem hq
      have := tx_m h hx
      exact ⟨this.1, by rw [e]; exact ih x this.2⟩
    · exact h
theorem stepO_tx {f : V → V → V} {m : List (ByteArray × V)} {p : ByteArray × V} (hf : ∀ u : V, u.tx → (f u p.2).tx) (hp : p.1.size ≤ 140737488355328) (h : ∀ q ∈ m, q.1.size ≤ 140737488355328 ∧ q.2.tx) : ∀ q ∈ stepO f m p, q.1.size ≤ 140737488355328 ∧ q.2.tx := by
  intro q hq
  unfold stepO at hq
  split at hq
  · exact h q (List.mem_filter.1 hq).1
  · rcases minsert_mem hq with rfl | hq
    · refine ⟨hp, hf _ ?_⟩
      cases hm : mfind p.1 m with
      | none => exact null_tx
      | some u => exact (h _ (mfind_in hm)).2
    · exact h q hq
theorem foldO_tx {f : V → V → V} : ∀ (b a : List (ByteArray × V)), (∀ p ∈ b, p.1.size ≤ 140737488355328 ∧ ∀ u : V, u.tx → (f u p.2).tx) → (∀ q ∈ a, q.1.size ≤ 140737488355328 ∧ q.2.tx) → ∀ q ∈ foldO f a b, q.1.size ≤ 140737488355328 ∧ q.2.tx
  | [], _, _, h => h
  | p :: b, _, hf, h => foldO_tx b _ (fun q hq => hf q (by simp [hq])) (stepO_tx (hf p (by simp)).2 (hf p (by simp)).1 h)
theorem over_tx : ∀ (n : Nat) (a b : V), b.size ≤ n → a.ord → b.ord → a.tx → b.tx → (overN n a b).tx := by
  intro n
  induction n with
  | zero => intro a b h; have := b.size_pos; omega
  | succ n ih =>
    intro a b hn ha hb hat hbt
    have hbe := b.size_eq
    rw [overN]
    split
    · rw [← foldO_merge _ a.m b.m (Nat.le_refl _) ((V.ord_eq a).1 ha).2.2.1 ((V.ord_eq b).1 hb).2.2.1]
      refine vMap_tx ?_
      -- every value that a step meets has pairs in order
      have key : ∀ (b' a' : List (ByteArray × V)), (∀ p ∈ b', p.1.size ≤ 140737488355328 ∧ p.2.tx ∧ p.2.ord ∧ p.2.size ≤ n) → (∀ q ∈ a', q.1.size ≤ 140737488355328 ∧ q.2.tx ∧ q.2.ord) → (∀ p ∈ b', ∀ u : V, u.ord → (overN n u p.2).ord) → ∀ q ∈ foldO (overN n) a' b', q.1.size ≤ 140737488355328 ∧ q.2.tx := by
        intro b'
        induction b' with
        | nil => intro a' _ h _ q hq; exact ⟨(h q hq).1, (h q hq).2.1⟩
        | cons p b' ihb =>
          intro a' hb' ha' ho
          refine ihb (stepO (overN n) a' p) (fun q hq => hb' q (by simp [hq])) (fun q hq => ?_) (fun q hq => ho q (by simp [hq]))
          unfold stepO at hq
          have hp := hb' p (by simp)
          split at hq
          · exact ha' q (List.mem_filter.1 hq).1
          · rcases minsert_mem hq with rfl | hq
            · have hu : ((mfind p.1 a').getD V.null).tx ∧ ((mfind p.1 a').getD V.null).ord := by
                cases hm : mfind p.1 a' with
                | none => exact ⟨null_tx, null_ord⟩
                | some u => exact (ha' _ (mfind_in hm)).2
              exact ⟨hp.1, ih _ _ hp.2.2.2 hu.2 hp.2.2.1 hu.1 hp.2.1, ho p (by simp) _ hu.2⟩
            · exact ha' q hq
      have hsz : ∀ p ∈ b.m, p.2.size ≤ n := fun p hp => by have := mem_sizeM (p := p) hp; omega
      exact key b.m a.m (fun p hp => ⟨(tx_m hbt hp).1, (tx_m hbt hp).2, ((V.ord_eq b).1 hb).2.2.2 p hp, hsz p hp⟩) (fun q hq => ⟨(tx_m hat hq).1, (tx_m hat hq).2, ((V.ord_eq a).1 ha).2.2.2 q hq⟩) fun p hp u hu => (over_facts n u p.2 (hsz p hp) hu (((V.ord_eq b).1 hb).2.2.2 p hp)).1
    · exact strip_tx _ b hbt
theorem nest_tx {x : V} (hx : x.tx) : ∀ l : List ByteArray, (∀ s ∈ l, s.size ≤ 140737488355328) → (nest x l).tx
  | [], _ => hx
  | s :: l, h => vMap_tx fun p hp => by
    rw [List.mem_singleton.1 hp]
    exact ⟨h s (by simp), nest_tx hx l fun t ht => h t (by simp [ht])⟩
/-- what a word comes to has no parts -/
def V.leaf (v : V) : Prop := v.ord ∧ v.tx ∧ v.size = 1 ∧ v.kind ≠ 5
theorem leaf_mk {k : Int} {b : Bool} {n : Int} {s : ByteArray} (hk : k ≠ 5) (hs : s.size ≤ 140737488355328) : (V.mk k b n s [] []).leaf :=
  ⟨(V.ord_eq _).2 ⟨fun h => absurd h hk, fun _ => rfl, List.Pairwise.nil, fun p h => by cases h⟩, (V.tx_eq _).2 ⟨hs, trivial, trivial⟩, by simp [V.size, sizeL, sizeM], hk⟩
theorem null_leaf : V.null.leaf := leaf_mk (by decide) (by decide)
theorem scal_leaf (s : ByteArray) (hs : s.size ≤ 140737488355328) : (scalP s).1.leaf := by
  unfold scalP
  split
  · exact null_leaf
  · split
    · exact leaf_mk (by decide) (by decide)
    · split
      · exact leaf_mk (by decide) hs
      · split
        · exact leaf_mk (by decide) (by decide)
        · exact null_leaf
theorem dbl_len : ∀ (n : Nat) (l out : List UInt8) (a b : List UInt8), l.length ≤ n → dbl l out = some (a, b) → a.length + b.length ≤ l.length + out.length := by
  intro n
  induction n with
  | zero =>
    intro l out a b h e
    cases l with
    | nil => cases e
    | cons c l => simp at h
  | succ n ih =>
    intro l out a b h e
    cases l with
    | nil => cases e
    | cons c l =>
      rw [dbl_cons] at e
      simp only [List.length_cons] at h ⊢
      split at e
      · cases e; omega
      · split at e
        · cases l with
          | nil => cases e
          | cons d l =>
            simp only [List.length_cons] at h ⊢
            simp only at e
            split at e
            · have := ih l _ a b (by omega) e; simp at this; omega
            · split at e
              · have := ih l _ a b (by omega) e; simp at this; omega
              · split at e
                · have := ih l _ a b (by omega) e; simp at this; omega
                · cases e
        · split at e
          · cases e
          · have := ih l _ a b (by omega) e; simp at this; omega
theorem sgl_len : ∀ (n : Nat) (l out : List UInt8) (a b : List UInt8), l.length ≤ n → sgl l out = some (a, b) → a.length + b.length ≤ l.length + out.length := by
  intro n
  induction n with
  | zero =>
    intro l out a b h e
    cases l with
    | nil => cases e
    | cons c l => simp at h
  | succ n ih =>
    intro l out a b h e
    cases l with
    | nil => cases e
    | cons c l =>
      rw [sgl_cons] at e
      simp only [List.length_cons] at h ⊢
      split at e
      · cases l with
        | nil => cases e; simp
        | cons d l =>
          simp only [List.length_cons] at h ⊢
          simp only at e
          split at e
          · have := ih l _ a b (by omega) e; simp at this; omega
          · cases e; simp only [List.length_cons]; omega
      · have := ih l _ a b (by omega) e; simp at this; omega
theorem word_leaf (s : ByteArray) (hs : s.size ≤ 140737488355328) : (wordP s).1.leaf := by
  unfold wordP
  split
  · unfold quoP
    split
    · exact null_leaf
    · rename_i a b hu
      split
      · refine leaf_mk (by decide) ?_
        have hl : a.length + b.length ≤ s.data.toList.length := by
          unfold unq at hu
          cases hL : s.data.toList with
          | nil => rw [hL] at hu; cases hu
          | cons c l =>
            rw [hL] at hu
            simp only at hu
            simp only [List.length_cons]
            split at hu
            · have := dbl_len l.length l [] a b (Nat.le_refl _) hu; simp at this; omega
            · split at hu
              · have := sgl_len l.length l [] a b (Nat.le_refl _) hu; simp at this; omega
              · cases hu
        have e : s.data.toList.length = s.size := rfl
        show a.toArray.size ≤ _
        rw [List.size_toArray]
        omega
      · exact null_leaf
  · exact scal_leaf s hs
/-- a set's answer -/
def setP (v : V) (s : ByteArray) : V × Int :=
  if (cutB s 61).2.2 = false then (V.null, 10)
  else if (pathP (cutB s 61).1).2 ≠ 0 then (V.null, (pathP (cutB s 61).1).2)
  else if (wordP (cutB s 61).2.1).2 ≠ 0 then (V.null, (wordP (cutB s 61).2.1).2)
  else if (overN 100 v (nest (wordP (cutB s 61).2.1).1 (pathP (cutB s 61).1).1)).checkC ≠ 0 then (V.null, (overN 100 v (nest (wordP (cutB s 61).2.1).1 (pathP (cutB s 61).1).1)).checkC)
  else (overN 100 v (nest (wordP (cutB s 61).2.1).1 (pathP (cutB s 61).1).1), 0)
end Go.Proofs.YtfnpjakekeojoaaGreatDoor
/-
  A set of values: the program's, walked.
-/
namespace Go.Proofs.YtfnpjakekeojoaaGreatDoor
set_option linter.unusedSimpArgs false
set_option linter.unusedVariables false
open Go.RowKit

theorem cutB_size (s : ByteArray) (c : UInt8) : (cutB s c).1.size ≤ s.size ∧ (cutB s c).2.1.size ≤ s.size := by
  unfold cutB
  split
  · exact ⟨Nat.le_refl _, Nat.zero_le _⟩
  · refine ⟨?_, ?_⟩ <;> simp only [ByteArray.size_extract] <;> omega
theorem pathP_facts (s : ByteArray) : (pathP s).1.length < 16 ∧ (∀ x ∈ (pathP s).1, x.size ≤ s.size) ∧ ((pathP s).2 = 0 → (pathP s).1 ≠ [] ∧ (pathP s).1.all wdB = true) := by
  unfold pathP
  split
  · exact ⟨by simp, (fun x hx => by cases hx), (fun h => absurd h (by decide))⟩
  · split
    · rename_i h16 ha
      refine ⟨by simpa using h16, fun x hx => splB_mem hx, fun _ => ⟨fun e => ?_, ha⟩⟩
      have := splB_len s
      simp only at e
      rw [e] at this
      simp at this
    · exact ⟨by simp, (fun x hx => by cases hx), (fun h => absurd h (by decide))⟩
theorem set_a (hD : DropOk) (v : V) (s : ByteArray) (ho : v.ord) (ht : v.tx) (hv : v.size ≤ 1000000) (hs : s.size ≤ 1000000) : AC Tryz.prog 10 [.agg [.int .i64 (v).kind, .bool (v).b, .int .i64 (v).n, .str (v).s, .lst .any 6 (rowsV (v).l), .lst .any 7 (rowsM (v).m)], .str s] (.tup [.agg [.int .i64 ((setP v s).1).kind, .bool ((setP v s).1).b, .int .i64 ((setP v s).1).n, .str ((setP v s).1).s, .lst .any 6 (rowsV ((setP v s).1).l), .lst .any 7 (rowsM ((setP v s).1).m)], .int .i64 (setP v s).2]) := by
  obtain ⟨hz1, hz2⟩ := cutB_size s 61
  have hC := cut_a s 61 (by omega)
  have hPa := pathParse_a (cutB s 61).1 (by omega)
  have hW := valWord_a (cutB s 61).2.1 (by omega)
  have hL := word_leaf (cutB s 61).2.1 (by omega)
  obtain ⟨hp1, hp2, hp3⟩ := pathP_facts (cutB s 61).1
  have hp4 : ∀ x ∈ (pathP (cutB s 61).1).1, x.size ≤ 140737488355328 := fun x hx => by have := hp2 x hx; omega
  unfold setP
  generalize (cutB s 61).1 = key at *
  generalize (cutB s 61).2.1 = word at *
  generalize (cutB s 61).2.2 = ok at *
  generalize pathP key = pe at *
  generalize wordP word = xe at *
  obtain ⟨l, e⟩ := pe
  obtain ⟨x, e2⟩ := xe
  dsimp only at *
  obtain ⟨hxo, hxt, hxs, hxk⟩ := hL
  have hns := nest_size x l
  have hno := nest_ord hxo l
  have hnt := nest_tx hxt l hp4
  have hov := over_facts 100 v (nest x l) (by omega) ho hno
  have hot := over_tx 100 v (nest x l) (by omega) ho hno ht hnt
  have hO := over_a hD 100 v (nest x l) (by omega) ho hno (by omega) (by omega)
  have hCk := treeCheck_a (overN 100 v (nest x l)) (hot.sb (by omega)) (by omega)
  generalize overN 100 v (nest x l) = out at *
  have hM := treeMap_a [] (by simp [sizeM])
  refine AC.enter Tryz.func10 a_values_Set_ok a_values_Set_cb (by rfl) fun E hE => ?_
  show AK _ _ _ [.c b_values_Set] _ _
  rw [b_values_Set]
  (repeat (first | apply kS | apply kB | apply kL | apply kN | (refine kR follows_any [] (by rfl) ?_ ?_; first | exact kT1 | exact kT2 | exact kT3 | exact kT4)))
  refine kR follows_any [.v (.tup [.str key, .str word, .bool ok])] (by rfl) ?_ ?_
  · ((repeat' apply And.intro) <;> first | trivial | omega | (simp only [List.length_nil, List.length_cons]; omega) | (intro hgd; first | (rw [hgd]; rfl) | (refine ⟨?_, by repeat (first | exact trivial | refine ⟨hgd, ?_⟩)⟩; (repeat' apply And.intro) <;> first | trivial | omega | (intro h2; rw [hgd, h2]; rfl) | skip)) | skip)
  (repeat (first | apply kS | apply kB | apply kL | apply kN | (refine kR follows_any [] (by rfl) ?_ ?_; first | exact kT1 | exact kT2 | exact kT3 | exact kT4)))
  refine AK.cond (by rfl) (fun hb => ?_) (fun hb => ?_)
  · have hok : ok = false := by simpa using hb
    subst hok
    (repeat (first | apply kS | apply kB | apply kL | apply kN | (refine kR follows_any [] (by rfl) ?_ ?_; first | exact kT1 | exact kT2 | exact kT3 | exact kT4)))
    refine AK.ret ⟨_, rfl, ?_⟩
    rw [if_pos rfl]
    rfl
  have hok : ok = true := by simpa using hb
  subst hok
  rw [if_neg (by decide)]
  (repeat (first | apply kS | apply kB | apply kL | apply kN | (refine kR follows_any [] (by rfl) ?_ ?_; first | exact kT1 | exact kT2 | exact kT3 | exact kT4)))
  refine kR follows_any [.v (.tup [.lst .any 1 (rowsP l), .int .i64 e])] (by rfl) ?_ ?_
  · ((repeat' apply And.intro) <;> first | trivial | omega | (simp only [List.length_nil, List.length_cons]; omega) | (intro hgd; first | (rw [hgd]; rfl) | (refine ⟨?_, by repeat (first | exact trivial | refine ⟨hgd, ?_⟩)⟩; (repeat' apply And.intro) <;> first | trivial | omega | (intro h2; rw [hgd, h2]; rfl) | skip)) | skip)
  (repeat (first | apply kS | apply kB | apply kL | apply kN | (refine kR follows_any [] (by rfl) ?_ ?_; first | exact kT1 | exact kT2 | exact kT3 | exact kT4)))
  refine AK.cond (by rfl) (fun hb => ?_) (fun hb => ?_)
  · have he : e ≠ 0 := by simpa using hb
    (repeat (first | apply kS | apply kB | apply kL | apply kN | (refine kR follows_any [] (by rfl) ?_ ?_; first | exact kT1 | exact kT2 | exact kT3 | exact kT4)))
    refine AK.ret ⟨_, rfl, ?_⟩
    rw [if_pos he]
    rfl
  have he : e = 0 := by simpa using hb
  subst he
  rw [if_neg (by decide)]
  (repeat (first | apply kS | apply kB | apply kL | apply kN | (refine kR follows_any [] (by rfl) ?_ ?_; first | exact kT1 | exact kT2 | exact kT3 | exact kT4)))
  refine kR follows_any [.v (.tup [.agg [.int .i64 (x).kind, .bool (x).b, .int .i64 (x).n, .str (x).s, .lst .any 6 (rowsV (x).l), .lst .any 7 (rowsM (x).m)], .int .i64 e2])] (by rfl) ?_ ?_
  · ((repeat' apply And.intro) <;> first | trivial | omega | (simp only [List.length_nil, List.length_cons]; omega) | (intro hgd; first | (rw [hgd]; rfl) | (refine ⟨?_, by repeat (first | exact trivial | refine ⟨hgd, ?_⟩)⟩; (repeat' apply And.intro) <;> first | trivial | omega | (intro h2; rw [hgd, h2]; rfl) | skip)) | skip)
  (repeat (first | apply kS | apply kB | apply kL | apply kN | (refine kR follows_any [] (by rfl) ?_ ?_; first | exact kT1 | exact kT2 | exact kT3 | exact kT4)))
  refine AK.cond (by rfl) (fun hb => ?_) (fun hb => ?_)
  · have he : e2 ≠ 0 := by simpa using hb
    (repeat (first | apply kS | apply kB | apply kL | apply kN | (refine kR follows_any [] (by rfl) ?_ ?_; first | exact kT1 | exact kT2 | exact kT3 | exact kT4)))
    refine AK.ret ⟨_, rfl, ?_⟩
    rw [if_pos he]
    rfl
  have he : e2 = 0 := by simpa using hb
  subst he
  rw [if_neg (by decide)]
  have hPp := pathPut_a x (by omega) hxo l (vMap []) (by omega) (.inr rfl) (.inl (hp3 rfl).1)
  (repeat (first | apply kS | apply kB | apply kL | apply kN | (refine kR follows_any [] (by rfl) ?_ ?_; first | exact kT1 | exact kT2 | exact kT3 | exact kT4)))
  refine kR follows_any [.v (.agg [.int .i64 ((vMap [])).kind, .bool ((vMap [])).b, .int .i64 ((vMap [])).n, .str ((vMap [])).s, .lst .any 6 (rowsV ((vMap [])).l), .lst .any 7 (rowsM ((vMap [])).m)]), .v (.agg [.int .i64 ((nest x l)).kind, .bool ((nest x l)).b, .int .i64 ((nest x l)).n, .str ((nest x l)).s, .lst .any 6 (rowsV ((nest x l)).l), .lst .any 7 (rowsM ((nest x l)).m)]), .v (.agg [.int .i64 (out).kind, .bool (out).b, .int .i64 (out).n, .str (out).s, .lst .any 6 (rowsV (out).l), .lst .any 7 (rowsM (out).m)])] (by rfl) ?_ ?_
  · ((repeat' apply And.intro) <;> first | trivial | omega | (simp only [List.length_nil, List.length_cons]; omega) | (intro hgd; first | (rw [hgd]; rfl) | (refine ⟨?_, by repeat (first | exact trivial | refine ⟨hgd, ?_⟩)⟩; (repeat' apply And.intro) <;> first | trivial | omega | (intro h2; rw [hgd, h2]; rfl) | skip)) | skip)
  (repeat (first | apply kS | apply kB | apply kL | apply kN | (refine kR follows_any [] (by rfl) ?_ ?_; first | exact kT1 | exact kT2 | exact kT3 | exact kT4)))
  refine kR follows_any [.v (.int .i64 out.checkC)] (by rfl) ?_ ?_
  · ((repeat' apply And.intro) <;> first | trivial | omega | (simp only [List.length_nil, List.length_cons]; omega) | (intro hgd; first | (rw [hgd]; rfl) | (refine ⟨?_, by repeat (first | exact trivial | refine ⟨hgd, ?_⟩)⟩; (repeat' apply And.intro) <;> first | trivial | omega | (intro h2; rw [hgd, h2]; rfl) | skip)) | skip)
  (repeat (first | apply kS | apply kB | apply kL | apply kN | (refine kR follows_any [] (by rfl) ?_ ?_; first | exact kT1 | exact kT2 | exact kT3 | exact kT4)))
  refine AK.cond (by rfl) (fun hb => ?_) (fun hb => ?_)
  · have he : out.checkC ≠ 0 := by simpa using hb
    (repeat (first | apply kS | apply kB | apply kL | apply kN | (refine kR follows_any [] (by rfl) ?_ ?_; first | exact kT1 | exact kT2 | exact kT3 | exact kT4)))
    refine AK.ret ⟨_, rfl, ?_⟩
    rw [if_pos he]
    rfl
  · have he : out.checkC = 0 := by simpa using hb
    (repeat (first | apply kS | apply kB | apply kL | apply kN | (refine kR follows_any [] (by rfl) ?_ ?_; first | exact kT1 | exact kT2 | exact kT3 | exact kT4)))
    refine AK.ret ⟨_, rfl, ?_⟩
    rw [if_neg (by rw [he]; decide)]
    rfl
end Go.Proofs.YtfnpjakekeojoaaGreatDoor
