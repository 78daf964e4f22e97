/-
  Texts in quotes are read as they were: the document's quotes, walked; the plain laws.
-/
import Derived.Test.YtfnpjakekeojoaaGreatDoorVl3
import Derived.Test.YtfnpjakekeojoaaGreatDoorValA
import Derived.Test.YtfnpjakekeojoaaGreatDoorLwA
import Derived.Test.YtfnpjakekeojoaaGreatDoorDrS
namespace Go.Proofs.YtfnpjakekeojoaaGreatDoor
set_option linter.unusedSimpArgs false
set_option linter.unusedVariables false
open Go.RowKit

def singC (c : UInt8) : ByteArray := if c = 39 then ⟨#[39, 39]⟩ else ⟨#[c]⟩
def singP (s : ByteArray) : Nat → ByteArray
  | 0 => ⟨#[39]⟩
  | k + 1 => singP s k ++ singC (s.data.getD k 0)
def singB (s : ByteArray) : ByteArray := singP s s.size ++ ⟨#[39]⟩
theorem singP_size (s : ByteArray) (k : Nat) : (singP s k).size ≤ 1 + 2 * k := by
  induction k with
  | zero => simp [singP, ByteArray.size]
  | succ k ih =>
    have : (singC (s.data.getD k 0)).size ≤ 2 := by
      unfold singC
      split
      · decide
      · exact (by decide : (1 : Nat) ≤ 2)
    rw [singP, ByteArray.size_append]
    omega
theorem refSingle_a (s : ByteArray) (hs : s.size ≤ 1000000) : AC Tryz.prog 17 [.str s] (.str (singB s)) := by
  have z4 : (ByteArray.mk #[39]).size = 1 := rfl
  refine AC.enter Tryz.func17 a_ref04_Single_ok a_ref04_Single_cb (by rfl) fun E hE => ?_
  show AK _ _ _ [.c b_ref04_Single] _ _
  rw [b_ref04_Single]
  (repeat (first | apply kS | apply kB | apply kL | apply kN | (refine kR follows_any [] (by rfl) ?_ ?_; first | exact kT1 | exact kT2 | exact kT3 | exact kT4)))
  refine AK.loopI (fun k : Nat => (frOf [(0, .str s), (3, .str (singP s k)), (4, .int .i64 k)], ⟨boxOf [], fun _ => 0⟩)) (fun k => k ≤ s.size) (fun k => s.size - k) 0 (Nat.zero_le _) (Weak.intro ⟨⟨_, rfl, .refl _⟩, ⟨_, rfl, .refl _⟩, ⟨_, rfl, .refl _⟩, trivial⟩ trivial rfl rfl) fun k hk => ?_
  have hq := singP_size s k
  (repeat (first | apply kS | apply kB | apply kL | apply kN | (refine kR follows_any [] (by rfl) ?_ ?_; first | exact kT1 | exact kT2 | exact kT3 | exact kT4)))
  refine AK.cond (by rfl) (fun hb => ?_) (fun hb => ?_)
  · have hlt : k < s.size := by simpa using hb
    have hst : singP s (k + 1) = singP s k ++ singC s[k] := by rw [singP, byte_at hlt]
    have hw : (IntKind.i64.wrap ((k : Int) + 1)).toNat = k + 1 := by rw [wrap_s (by omega) (by omega)]; omega
    have hw2 : IntKind.i64.wrap ((k : Int) + 1) = (k : Int) + 1 := wrap_in (by omega) (by omega)
    have hx : s.extract (k : Int).toNat (IntKind.i64.wrap ((k : Int) + 1)).toNat = ⟨#[s[k]]⟩ := by rw [hw]; exact ext_one hlt
    have z5 : (ByteArray.mk #[s[k]]).size = 1 := rfl
    (repeat (first | apply kS | apply kB | apply kL | apply kN | (refine kR follows_any [] (by rfl) ?_ ?_; first | exact kT1 | exact kT2 | exact kT3 | exact kT4)))
    refine kR follows_any [] (by rfl) ?_ ?_
    · ((repeat' apply And.intro) <;> first | trivial | omega | (simp only [List.length_nil, List.length_cons]; omega) | (intro hgd; first | (rw [hgd]; rfl) | (refine ⟨?_, by repeat (first | exact trivial | refine ⟨hgd, ?_⟩)⟩; (repeat' apply And.intro) <;> first | trivial | omega | (intro h2; rw [hgd, h2]; rfl) | skip)) | skip)
      all_goals first | (rw [hw2]; omega) | (rw [hx]; omega)
    rw [hx]
    (repeat (first | apply kS | apply kB | apply kL | apply kN | (refine kR follows_any [] (by rfl) ?_ ?_; first | exact kT1 | exact kT2 | exact kT3 | exact kT4)))
    refine kR follows_any [] (by rfl) ?_ ?_
    · ((repeat' apply And.intro) <;> first | trivial | omega | (simp only [List.length_nil, List.length_cons]; omega) | (intro hgd; first | (rw [hgd]; rfl) | (refine ⟨?_, by repeat (first | exact trivial | refine ⟨hgd, ?_⟩)⟩; (repeat' apply And.intro) <;> first | trivial | omega | (intro h2; rw [hgd, h2]; rfl) | skip)) | skip)
    rw [show s.data.getD (k : Int).toNat 0 = s[k] from byte_at hlt]
    refine AK.cond (by rfl) (fun hb => ?_) (fun hb => ?_)
    · have e : s[k] = 39 := UInt8.toNat_inj.1 (by have : ((s[k].toNat : Nat) : Int) = 39 := by simpa using hb
                                                  show s[k].toNat = 39; omega)
      have e2 : singC s[k] = ⟨#[s[k]]⟩ ++ ⟨#[39]⟩ := by rw [singC, if_pos e, e]; rfl
      (repeat (first | apply kS | apply kB | apply kL | apply kN | (refine kR follows_any [] (by rfl) ?_ ?_; first | exact kT1 | exact kT2 | exact kT3 | exact kT4)))
      refine kR follows_any [] (by rfl) ?_ ?_
      · ((repeat' apply And.intro) <;> first | trivial | omega | (simp only [List.length_nil, List.length_cons]; omega) | (intro hgd; first | (rw [hgd]; rfl) | (refine ⟨?_, by repeat (first | exact trivial | refine ⟨hgd, ?_⟩)⟩; (repeat' apply And.intro) <;> first | trivial | omega | (intro h2; rw [hgd, h2]; rfl) | skip)) | skip)
        all_goals (rw [ByteArray.size_append]; omega)
      (repeat (first | apply kS | apply kB | apply kL | apply kN | (refine kR follows_any [] (by rfl) ?_ ?_; first | exact kT1 | exact kT2 | exact kT3 | exact kT4)))
      exact AK.lp ⟨k + 1, by omega, Weak.intro ⟨⟨_, rfl, .refl _⟩, ⟨_, rfl, .of_eq (congrArg AV.str (by rw [hst, e2, ba_app]))⟩, ⟨_, rfl, .of_eq (congrArg _ (by first | omega | (rw [wrap_in (by omega) (by omega)]; omega)))⟩, trivial⟩ trivial rfl rfl, by omega⟩
    · have e : ¬ s[k] = 39 := fun e => by rw [e] at hb; cases hb
      have e2 : singC s[k] = ⟨#[s[k]]⟩ := by rw [singC, if_neg e]
      (repeat (first | apply kS | apply kB | apply kL | apply kN | (refine kR follows_any [] (by rfl) ?_ ?_; first | exact kT1 | exact kT2 | exact kT3 | exact kT4)))
      exact AK.lp ⟨k + 1, by omega, Weak.intro ⟨⟨_, rfl, .refl _⟩, ⟨_, rfl, .of_eq (congrArg AV.str (by rw [hst, e2]))⟩, ⟨_, rfl, .of_eq (congrArg _ (by first | omega | (rw [wrap_in (by omega) (by omega)]; omega)))⟩, trivial⟩ trivial rfl rfl, by omega⟩
  · have hlt : k = s.size := by have : s.size ≤ k := by simpa using hb
                                omega
    subst hlt
    refine AK.exit rfl ?_
    (repeat (first | apply kS | apply kB | apply kL | apply kN | (refine kR follows_any [] (by rfl) ?_ ?_; first | exact kT1 | exact kT2 | exact kT3 | exact kT4)))
    refine kR follows_any [] (by rfl) ?_ ?_
    · ((repeat' apply And.intro) <;> first | trivial | omega | (simp only [List.length_nil, List.length_cons]; omega) | (intro hgd; first | (rw [hgd]; rfl) | (refine ⟨?_, by repeat (first | exact trivial | refine ⟨hgd, ?_⟩)⟩; (repeat' apply And.intro) <;> first | trivial | omega | (intro h2; rw [hgd, h2]; rfl) | skip)) | skip)
    (repeat (first | apply kS | apply kB | apply kL | apply kN | (refine kR follows_any [] (by rfl) ?_ ?_; first | exact kT1 | exact kT2 | exact kT3 | exact kT4)))
    refine AK.ret ⟨_, rfl, ?_⟩
    rfl
/-! plainly -/
theorem ba_app_list (a b : ByteArray) : (a ++ b).data.toList = a.data.toList ++ b.data.toList := by simp
theorem take_bytes {s : ByteArray} {k : Nat} (h : k < s.size) : s.data.toList.take (k + 1) = s.data.toList.take k ++ [s[k]] := by
  have h2 : s.data.toList[k]? = some s[k] := by rw [List.getElem?_eq_getElem (show k < s.data.toList.length from h)]; rfl
  exact take_snoc h2
theorem quoteP_list (s : ByteArray) : ∀ k, k ≤ s.size → (quoteP s k).data.toList = 34 :: (s.data.toList.take k).flatMap fun c => (quoteC c).data.toList := by
  intro k
  induction k with
  | zero => intro _; rfl
  | succ k ih =>
    intro h
    rw [quoteP, byte_at (show k < s.size by omega), ba_app_list, ih (by omega), take_bytes (show k < s.size by omega), List.flatMap_append]
    simp
theorem quoteB_list (s : ByteArray) : (quoteB s).data.toList = 34 :: ((s.data.toList.flatMap fun c => (quoteC c).data.toList) ++ [34]) := by
  rw [quoteB, ba_app_list, quoteP_list s s.size (Nat.le_refl _), List.take_of_length_le (show s.data.toList.length ≤ s.size from Nat.le_refl _)]
  rfl
theorem singP_list (s : ByteArray) : ∀ k, k ≤ s.size → (singP s k).data.toList = 39 :: (s.data.toList.take k).flatMap fun c => (singC c).data.toList := by
  intro k
  induction k with
  | zero => intro _; rfl
  | succ k ih =>
    intro h
    rw [singP, byte_at (show k < s.size by omega), ba_app_list, ih (by omega), take_bytes (show k < s.size by omega), List.flatMap_append]
    simp
theorem singB_list (s : ByteArray) : (singB s).data.toList = 39 :: ((s.data.toList.flatMap fun c => (singC c).data.toList) ++ [39]) := by
  rw [singB, ba_app_list, singP_list s s.size (Nat.le_refl _), List.take_of_length_le (show s.data.toList.length ≤ s.size from Nat.le_refl _)]
  rfl
theorem dbl_esc (d : UInt8) (l out : List UInt8) : dbl (92 :: d :: l) out = if d = 110 then dbl l (out ++ [10]) else if d = 116 then dbl l (out ++ [9]) else if d = 34 ∨ d = 92 then dbl l (out ++ [d]) else none := by
  rw [dbl_cons, if_neg (by decide), if_pos rfl]
theorem dbl_quote : ∀ (l out : List UInt8), dbl ((l.flatMap fun c => (quoteC c).data.toList) ++ [34]) out = some (out ++ l, [])
  | [], out => by
    show dbl [34] out = _
    rw [dbl_cons, if_pos rfl, List.append_nil]
  | c :: l, out => by
    rw [List.flatMap_cons, List.append_assoc]
    by_cases h10 : c = 10
    · subst h10
      show dbl (92 :: 110 :: ((l.flatMap fun c => (quoteC c).data.toList) ++ [34])) out = _
      rw [dbl_esc, if_pos rfl, dbl_quote l, List.append_assoc]; rfl
    by_cases h9 : c = 9
    · subst h9
      show dbl (92 :: 116 :: ((l.flatMap fun c => (quoteC c).data.toList) ++ [34])) out = _
      rw [dbl_esc, if_neg (by decide), if_pos rfl, dbl_quote l, List.append_assoc]; rfl
    by_cases h34 : c = 34 ∨ c = 92
    · have e : (quoteC c).data.toList = [92, c] := by rw [quoteC, if_neg h10, if_neg h9, if_pos h34]
      rw [e]
      show dbl (92 :: c :: ((l.flatMap fun c => (quoteC c).data.toList) ++ [34])) out = _
      rw [dbl_esc, if_neg (by rcases h34 with rfl | rfl <;> decide), if_neg (by rcases h34 with rfl | rfl <;> decide), if_pos h34, dbl_quote l, List.append_assoc]; rfl
    · have e : (quoteC c).data.toList = [c] := by rw [quoteC, if_neg h10, if_neg h9, if_neg h34]
      rw [e]
      show dbl (c :: ((l.flatMap fun c => (quoteC c).data.toList) ++ [34])) out = _
      rw [dbl_cons, if_neg (fun e => h34 (.inl e)), if_neg (fun e => h34 (.inr e)), if_neg (fun e => e.elim h10 h9), dbl_quote l, List.append_assoc]; rfl
theorem sgl_sing : ∀ (l out : List UInt8), sgl ((l.flatMap fun c => (singC c).data.toList) ++ [39]) out = some (out ++ l, [])
  | [], out => by
    show sgl [39] out = _
    rw [sgl_cons, if_pos rfl, List.append_nil]
  | c :: l, out => by
    rw [List.flatMap_cons, List.append_assoc]
    by_cases h : c = 39
    · subst h
      show sgl (39 :: 39 :: ((l.flatMap fun c => (singC c).data.toList) ++ [39])) out = _
      rw [sgl_cons, if_pos rfl]
      show (if (39 : UInt8) = 39 then sgl ((l.flatMap fun c => (singC c).data.toList) ++ [39]) (out ++ [39]) else _) = _
      rw [if_pos rfl, sgl_sing l, List.append_assoc]; rfl
    · have e : (singC c).data.toList = [c] := by rw [singC, if_neg h]
      rw [e]
      show sgl (c :: ((l.flatMap fun c => (singC c).data.toList) ++ [39])) out = _
      rw [sgl_cons, if_neg h, sgl_sing l, List.append_assoc]; rfl
theorem hasB_one {s : ByteArray} {c : UInt8} {l : List UInt8} (h : s.data.toList = c :: l) : hasB s ⟨#[c]⟩ = true := by
  have hsz : 1 ≤ s.size := by have : s.data.toList.length = s.size := rfl
                              rw [h] at this; simp at this; omega
  have h0 : s[0] = c := by have := byte_drop (s := s) (k := 0) hsz; rw [List.drop_zero, h] at this; injection this with h _; exact h.symm
  rw [hasB, show (ByteArray.mk #[c]).size = 1 from rfl, show s.extract 0 1 = ⟨#[s[0]]⟩ from ext_one hsz, h0]
  simp [hsz]
theorem word_quote (s : ByteArray) : wordP (quoteB s) = (V.str s, 0) := by
  have hl := quoteB_list s
  rw [wordP, hasB_one hl, Bool.true_or, if_pos rfl]
  have hu : unq (quoteB s) = some (s.data.toList, []) := by
    unfold unq
    rw [hl]
    show (if (34 : UInt8) = 34 then dbl ((s.data.toList.flatMap fun c => (quoteC c).data.toList) ++ [34]) [] else _) = _
    rw [if_pos rfl, dbl_quote, List.nil_append]
  rw [hu, quoP, if_pos rfl]
theorem word_sing (s : ByteArray) : wordP (singB s) = (V.str s, 0) := by
  have hl := singB_list s
  rw [wordP, hasB_one hl, Bool.or_true, if_pos rfl]
  have hu : unq (singB s) = some (s.data.toList, []) := by
    unfold unq
    rw [hl]
    show (if (39 : UInt8) = 34 then _ else if (39 : UInt8) = 39 then sgl ((s.data.toList.flatMap fun c => (singC c).data.toList) ++ [39]) [] else _) = _
    rw [if_neg (by decide), if_pos rfl, sgl_sing, List.nil_append]
  rw [hu, quoP, if_pos rfl]
end Go.Proofs.YtfnpjakekeojoaaGreatDoor
/-
  ValuesWords, walked: it answers true.
-/
namespace Go.Proofs.YtfnpjakekeojoaaGreatDoor
set_option linter.unusedSimpArgs false
set_option linter.unusedVariables false
open Go.RowKit

theorem same_self (v : V) (hv : v.size ≤ 2000000000000) : AC Tryz.prog 12 [.agg [.int .i64 (v).kind, .bool (v).b, .int .i64 (v).n, .str (v).s, .lst .any 6 (rowsV (v).l), .lst .any 7 (rowsM (v).m)], .agg [.int .i64 (v).kind, .bool (v).b, .int .i64 (v).n, .str (v).s, .lst .any 6 (rowsV (v).l), .lst .any 7 (rowsM (v).m)]] (.bool true) := by
  have h := refSame_a v.size v v (Nat.le_refl _) hv
  rw [V.sameB_true.2 rfl] at h
  exact h
end Go.Proofs.YtfnpjakekeojoaaGreatDoor
