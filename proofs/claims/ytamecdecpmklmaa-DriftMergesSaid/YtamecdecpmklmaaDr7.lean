/-
  The law's function is: of equal changes it answers true.
-/
import Derived.Test.YtamecdecpmklmaaDr6
namespace Go.Proofs.Ytamecdecpmklmaa
set_option linter.unusedSimpArgs false
set_option linter.unusedVariables false
open Go.RowKit

/-- changes with an object's name -/
def rowsDc (ka kb kc : ByteArray) (l : List (Int × Path)) : List (List AV) := l.map fun q => [.int .i64 q.1, .str ka, .str kb, .str kc, .lst .any 1 (rowsP q.2)]
theorem rowsDc_append (ka kb kc : ByteArray) (a b : List (Int × Path)) : rowsDc ka kb kc (a ++ b) = rowsDc ka kb kc a ++ rowsDc ka kb kc b := List.map_append
theorem rowsDc_len (ka kb kc : ByteArray) (l : List (Int × Path)) : (rowsDc ka kb kc l).length = l.length := List.length_map _
theorem rowsDc_at {ka kb kc : ByteArray} {l : List (Int × Path)} {k : Nat} {n : Int} {p : Path} (h : l[k]? = some (n, p)) : (rowsDc ka kb kc l)[k]? = some [.int .i64 n, .str ka, .str kb, .str kc, .lst .any 1 (rowsP p)] := by simp [rowsDc, h]
theorem rowsCh_at {l : List (Int × Path)} {k : Nat} {n : Int} {p : Path} (h : l[k]? = some (n, p)) : (rowsCh l)[k]? = some [.int .i64 n, .lst .any 1 (rowsP p)] := by simp [rowsCh, h]

theorem heldID : Try.prog.stoodInHeld 23 = false := by kernel_rfl
theorem guardID : Try.prog.eqGuardType Try.prog.depth 23 = false := by kernel_rfl
theorem eqID (ka kb kc : ByteArray) : EqRun Try.prog true 23 [.string ka, .string kb, .string kc] [.string ka, .string kb, .string kc] true := by
  intro w x y
  constructor
  · simp [go_sem, eqGuard, eqOp, guardID]
  · simp [go_sem, eqOp, heldID]

theorem eqCells_self3 (a b c : ByteArray) : eqCells [.str a, .str b, .str c] [.str a, .str b, .str c] = true := by simp [eqCells]
theorem is_a (ka kb kc : ByteArray) (l : List (Int × Path)) (hl : l.length ≤ 1000000) (hp : ∀ q ∈ l, q.2.length ≤ 1000000) :
    AC Try.prog 8 [.lst .any 5 (rowsDc ka kb kc l), .agg [.str ka, .str kb, .str kc], .lst .any 2 (rowsCh l)] (.bool true) := by
  refine AC.enter Try.func8 a_law21_is_ok a_law21_is_cb (by rfl) fun E hE => ?_
  show AK _ _ _ [.c b_law21_is] _ _
  rw [b_law21_is]
  (repeat (first | apply AK.seq | apply AK.block | apply AK.blk | apply AK.skip | (refine AK.reg follows_any (rs := []) (by rfl) ?_ ?_; first | exact trivial | exact ⟨trivial, trivial⟩ | exact ⟨trivial, trivial, trivial⟩ | exact ⟨trivial, trivial, trivial, trivial⟩ | fail) | fail))
  refine AK.cond (by rfl) (fun hb => ?_) (fun hb => ?_)
  · rw [rowsDc_len, rowsCh_len] at hb
    simp at hb
  (repeat (first | apply AK.seq | apply AK.block | apply AK.blk | apply AK.skip | (refine AK.reg follows_any (rs := []) (by rfl) ?_ ?_; first | exact trivial | exact ⟨trivial, trivial⟩ | exact ⟨trivial, trivial, trivial⟩ | exact ⟨trivial, trivial, trivial, trivial⟩ | fail) | fail))
  refine AK.loopI (fun k : Nat => (frOf [(0, .lst .any 5 (rowsDc ka kb kc l)), (2, .lst .any 2 (rowsCh l)), (4, .ptr 4 0), (14, .int .i64 (rowsDc ka kb kc l).length), (15, .int .i64 k)], ⟨boxOf [(4, [.str ka, .str kb, .str kc], false)], fun _ => 0⟩)) (fun k => k ≤ l.length) (fun k => l.length - k) 0 (by simp) (Weak.intro ⟨⟨_, rfl, .refl _⟩, ⟨_, rfl, .refl _⟩, ⟨_, rfl, .refl _⟩, ⟨_, rfl, .refl _⟩, ⟨_, rfl, .refl _⟩, trivial⟩ ⟨⟨_, rfl, leL_refl _⟩, trivial⟩ rfl rfl) fun k hk => ?_
  (repeat (first | apply AK.seq | apply AK.block | apply AK.blk | apply AK.skip | (refine AK.reg follows_any (rs := []) (by rfl) ?_ ?_; first | exact trivial | exact ⟨trivial, trivial⟩ | exact ⟨trivial, trivial, trivial⟩ | exact ⟨trivial, trivial, trivial, trivial⟩ | fail) | fail))
  refine AK.cond (by rfl) (fun hb => ?_) (fun hb => ?_)
  · have hlt : k < l.length := by simpa [rowsDc_len] using hb
    obtain ⟨⟨n, p⟩, hg⟩ : ∃ x, l[k]? = some x := ⟨_, List.getElem?_eq_getElem hlt⟩
    have hpl := hp _ (List.mem_of_getElem? hg)
    dsimp only at hpl
    have hbs := begins_self p
    (repeat (first | apply AK.seq | apply AK.block | apply AK.blk | apply AK.skip | (refine AK.reg follows_any (rs := []) (by rfl) ?_ ?_; first | exact trivial | exact ⟨trivial, trivial⟩ | exact ⟨trivial, trivial, trivial⟩ | exact ⟨trivial, trivial, trivial, trivial⟩ | fail) | fail))
    refine AK.reg follows_any (rs := [.c [.int .i64 n, .str ka, .str kb, .str kc, .lst .any 1 (rowsP p)], .c [.int .i64 n, .lst .any 1 (rowsP p)], .c [.int .i64 n, .str ka, .str kb, .str kc, .lst .any 1 (rowsP p)], .c [.int .i64 n, .str ka, .str kb, .str kc, .lst .any 1 (rowsP p)], .c [.int .i64 n, .lst .any 1 (rowsP p)], .c [.int .i64 n, .str ka, .str kb, .str kc, .lst .any 1 (rowsP p)], .c [.int .i64 n, .lst .any 1 (rowsP p)], .v (.bool (begins p p))]) (by rfl) ?_ ?_
    · ((repeat' apply And.intro) <;> first | trivial | omega | (simp only [List.length_nil, List.length_cons]; omega) | (intro hgd; first | (rw [hgd]; rfl) | (refine ⟨?_, by repeat (first | exact trivial | refine ⟨hgd, ?_⟩)⟩; (repeat' apply And.intro) <;> first | trivial | omega | (intro h2; rw [hgd, h2]; rfl) | skip)) | skip)
      all_goals first
        | exact rowsDc_at hg
        | exact rowsCh_at hg
        | exact refBegins_a p p (by omega) (by omega)
        | (rw [eqCells_self3]; exact eqID ka kb kc)
    refine AK.cond (by rfl) (fun hb => ?_) (fun hb => ?_)
    · rw [hbs, eqCells_self3] at hb
      simp at hb
    (repeat (first | apply AK.seq | apply AK.block | apply AK.blk | apply AK.skip | (refine AK.reg follows_any (rs := []) (by rfl) ?_ ?_; first | exact trivial | exact ⟨trivial, trivial⟩ | exact ⟨trivial, trivial, trivial⟩ | exact ⟨trivial, trivial, trivial, trivial⟩ | fail) | fail))
    exact AK.lp ⟨k + 1, by omega, Weak.intro ⟨⟨_, rfl, .refl _⟩, ⟨_, rfl, .refl _⟩, ⟨_, rfl, .refl _⟩, ⟨_, rfl, .refl _⟩, ⟨_, rfl, .of_eq (congrArg _ (by first | omega | (rw [wrap_in (by omega) (by omega)]; omega)))⟩, trivial⟩ ⟨⟨_, rfl, leL_refl _⟩, trivial⟩ rfl rfl, by omega⟩
  · have hlt : k = l.length := by have : l.length ≤ k := by simpa [rowsDc_len] using hb
                                  omega
    subst hlt
    refine AK.exit rfl ?_
    (repeat (first | apply AK.seq | apply AK.block | apply AK.blk | apply AK.skip | (refine AK.reg follows_any (rs := []) (by rfl) ?_ ?_; first | exact trivial | exact ⟨trivial, trivial⟩ | exact ⟨trivial, trivial, trivial⟩ | exact ⟨trivial, trivial, trivial, trivial⟩ | fail) | fail))
    refine AK.ret ⟨_, rfl, ?_⟩
    rfl
end Go.Proofs.Ytamecdecpmklmaa
