/-
  The law's function ReportWords, walked: of any path and any two errors it answers true.
-/
import Derived.Test.YtamecdecpmklmaaDoorRes
import Derived.Test.YtamecdecpmklmaaDoorRp7
import Derived.Test.YtamecdecpmklmaaDoorQuo
import Derived.Test.YtamecdecpmklmaaDoorErr
namespace Go.Proofs.YtamecdecpmklmaaDoor
set_option linter.unusedSimpArgs false
set_option linter.unusedVariables false
open Go.RowKit

def sumW : List ByteArray → Nat
  | [] => 0
  | s :: l => s.size + 1 + sumW l
theorem sumW_append (a b : List ByteArray) : sumW (a ++ b) = sumW a + sumW b := by
  induction a with
  | nil => simp [sumW]
  | cons s a ih => rw [List.cons_append, sumW, sumW, ih]; omega
theorem sumW_take (l : List ByteArray) (k : Nat) : sumW (l.take k) ≤ sumW l := by
  have h : sumW (l.take k ++ l.drop k) = sumW l := by rw [List.take_append_drop]
  rw [sumW_append] at h; omega
theorem sumW_len (l : List ByteArray) : l.length ≤ sumW l := by
  induction l with
  | nil => simp
  | cons s l ih => rw [List.length_cons, sumW]; omega
theorem sumW_mem {l : List ByteArray} {s : ByteArray} (h : s ∈ l) : s.size ≤ sumW l := by
  induction l with
  | nil => cases h
  | cons x l ih =>
    rw [sumW]
    rcases List.mem_cons.1 h with rfl | h
    · omega
    · have := ih h; omega
theorem sumW_snoc {l : List ByteArray} {k : Nat} {s : ByteArray} (h : l[k]? = some s) : sumW (l.take (k + 1)) = sumW (l.take k) + (s.size + 1) := by
  rw [List.take_add_one, h, sumW_append]
  simp [sumW]
theorem awake_r : AC Tryd.prog 4 [] (.bool true) := by
  refine ⟨by kernel_rfl, fun σ w vs hh hr hg => ?_⟩
  obtain rfl : vs = [] := List.eq_nil_of_length_eq_zero hr.1
  refine (awake_any w (laidW_of hg)).mono ?_
  rintro e w' ⟨rfl, hb⟩
  exact ⟨σ, _, rfl, Ext.refl _ _, fun b q v hv => (hb.cell (p := ⟨b, q, none⟩) (World.block_lt_of_cell? w _ (hh _ _ _ hv))).trans (hh _ _ _ hv), hb, .bool _⟩

theorem reportWords_a (l : List ByteArray) (e f : Int) (hs : sumW l ≤ 2000000) (he : e ≤ 9223372036854775807) (hf : f ≤ 9223372036854775807) (he0 : -9223372036854775808 ≤ e) (hf0 : -9223372036854775808 ≤ f) :
    AC Tryd.prog 3 [.lst .any 1 (rowsW l), .int .i64 e, .int .i64 f] (.bool true) := by
  have haw := awake_r
  have hE := error_a e he
  have hF := error_a f hf
  refine AC.enter Tryd.func3 a_law23_ReportWords_ok a_law23_ReportWords_cb (by rfl) fun E hE => ?_
  show AK _ _ _ [.c b_law23_ReportWords] _ _
  rw [b_law23_ReportWords]
  (repeat (first | apply AK.seq | apply AK.block | apply AK.blk | apply AK.skip | (refine AK.reg follows_any (rs := []) (by rfl) ?_ ?_; first | exact trivial | exact ⟨trivial, trivial⟩ | exact ⟨trivial, trivial, trivial⟩ | exact ⟨trivial, trivial, trivial, trivial⟩ | fail) | fail))
  refine AK.loopI (fun k : Nat => (frOf [(0, .lst .any 1 (rowsW l)), (1, .int .i64 e), (2, .int .i64 f), (7, .int .i64 (sumW (l.take k))), (12, .lst .any 1 (rowsW l)), (13, .int .i64 (rowsW l).length), (14, .int .i64 k)], ⟨boxOf [], fun _ => 0⟩))
    (fun k => k ≤ l.length) (fun k => l.length - k) 0 (Nat.zero_le _) (Weak.intro ⟨⟨_, rfl, .refl _⟩, ⟨_, rfl, .refl _⟩, ⟨_, rfl, .refl _⟩, ⟨_, rfl, .refl _⟩, ⟨_, rfl, .refl _⟩, ⟨_, rfl, .refl _⟩, ⟨_, rfl, .refl _⟩, trivial⟩ trivial rfl rfl) fun k hk => ?_
  have ht := sumW_take l k
  have hl0 := sumW_len l
  (repeat (first | apply AK.seq | apply AK.block | apply AK.blk | apply AK.skip | (refine AK.reg follows_any (rs := []) (by rfl) ?_ ?_; first | exact trivial | exact ⟨trivial, trivial⟩ | exact ⟨trivial, trivial, trivial⟩ | exact ⟨trivial, trivial, trivial, trivial⟩ | fail) | fail))
  refine AK.cond (by rfl) (fun hb => ?_) (fun hb => ?_)
  · have hlt : k < l.length := by simpa [rowsW_len] using hb
    obtain ⟨s, hg⟩ : ∃ x, l[k]? = some x := ⟨_, List.getElem?_eq_getElem hlt⟩
    have hst := sumW_snoc hg
    have ht2 := sumW_take l (k + 1)
    (repeat (first | apply AK.seq | apply AK.block | apply AK.blk | apply AK.skip | (refine AK.reg follows_any (rs := []) (by rfl) ?_ ?_; first | exact trivial | exact ⟨trivial, trivial⟩ | exact ⟨trivial, trivial, trivial⟩ | exact ⟨trivial, trivial, trivial, trivial⟩ | fail) | fail))
    refine AK.reg follows_any (rs := [.c [.str s]]) (by rfl) ?_ ?_
    · ((repeat' apply And.intro) <;> first | trivial | omega | (simp only [List.length_nil, List.length_cons]; omega) | (intro hgd; first | (rw [hgd]; rfl) | (refine ⟨?_, by repeat (first | exact trivial | refine ⟨hgd, ?_⟩)⟩; (repeat' apply And.intro) <;> first | trivial | omega | (intro h2; rw [hgd, h2]; rfl) | skip)) | skip)
      · exact rowsW_at hg
    (repeat (first | apply AK.seq | apply AK.block | apply AK.blk | apply AK.skip | (refine AK.reg follows_any (rs := []) (by rfl) ?_ ?_; first | exact trivial | exact ⟨trivial, trivial⟩ | exact ⟨trivial, trivial, trivial⟩ | exact ⟨trivial, trivial, trivial, trivial⟩ | fail) | fail))
    exact AK.lp ⟨k + 1, by omega, Weak.intro ⟨⟨_, rfl, .refl _⟩, ⟨_, rfl, .refl _⟩, ⟨_, rfl, .refl _⟩, ⟨_, rfl, .of_eq (congrArg (AV.int .i64) (by rw [hst, show IntKind.i64.wrap ((s.size : Int) + 1) = (s.size : Int) + 1 from wrap_in (by omega) (by omega), wrap_in (by omega) (by omega)]; omega))⟩, ⟨_, rfl, .refl _⟩, ⟨_, rfl, .refl _⟩, ⟨_, rfl, .of_eq (congrArg _ (by first | omega | (rw [wrap_in (by omega) (by omega)]; omega)))⟩, trivial⟩ trivial rfl rfl, by omega⟩
  · have hlt : k = l.length := by have : l.length ≤ k := by simpa [rowsW_len] using hb
                                  omega
    subst hlt
    rw [List.take_length]
    refine AK.exit rfl ?_
    (repeat (first | apply AK.seq | apply AK.block | apply AK.blk | apply AK.skip | (refine AK.reg follows_any (rs := []) (by rfl) ?_ ?_; first | exact trivial | exact ⟨trivial, trivial⟩ | exact ⟨trivial, trivial, trivial⟩ | exact ⟨trivial, trivial, trivial, trivial⟩ | fail) | fail))
    refine AK.cond (by rfl) (fun hb => ?_) (fun hb => ?_)
    · (repeat (first | apply AK.seq | apply AK.block | apply AK.blk | apply AK.skip | (refine AK.reg follows_any (rs := []) (by rfl) ?_ ?_; first | exact trivial | exact ⟨trivial, trivial⟩ | exact ⟨trivial, trivial, trivial⟩ | exact ⟨trivial, trivial, trivial, trivial⟩ | fail) | fail))
      refine AK.reg follows_any (rs := [.v (.bool true)]) (by rfl) ?_ ?_
      · ((repeat' apply And.intro) <;> first | trivial | omega | (simp only [List.length_nil, List.length_cons]; omega) | (intro hgd; first | (rw [hgd]; rfl) | (refine ⟨?_, by repeat (first | exact trivial | refine ⟨hgd, ?_⟩)⟩; (repeat' apply And.intro) <;> first | trivial | omega | (intro h2; rw [hgd, h2]; rfl) | skip)) | skip)
      (repeat (first | apply AK.seq | apply AK.block | apply AK.blk | apply AK.skip | (refine AK.reg follows_any (rs := []) (by rfl) ?_ ?_; first | exact trivial | exact ⟨trivial, trivial⟩ | exact ⟨trivial, trivial, trivial⟩ | exact ⟨trivial, trivial, trivial, trivial⟩ | fail) | fail))
      refine AK.ret ⟨_, rfl, ?_⟩
      rfl
    have hle : sumW l ≤ 1000 := by have : ¬ ((1000 : Int) < sumW l) := by simpa using hb
                                   omega
    have hll : l.length ≤ 1000 := Nat.le_trans (sumW_len l) hle
    have hmm : ∀ s ∈ l, s.size ≤ 1000 := fun s h => Nat.le_trans (sumW_mem h) hle
    have hPl := place_a quote_ok l hll hmm
    have hRl := refPlace_a l hll hmm
    have hRe := refError_a e
    have hRf := refError_a f
    (repeat (first | apply AK.seq | apply AK.block | apply AK.blk | apply AK.skip | (refine AK.reg follows_any (rs := []) (by rfl) ?_ ?_; first | exact trivial | exact ⟨trivial, trivial⟩ | exact ⟨trivial, trivial, trivial⟩ | exact ⟨trivial, trivial, trivial, trivial⟩ | fail) | fail))
    refine AK.reg follows_any (rs := [.v (.str (errW e)), .v (.str (errW f))]) (by rfl) ?_ ?_
    · ((repeat' apply And.intro) <;> first | trivial | omega | (simp only [List.length_nil, List.length_cons]; omega) | (intro hgd; first | (rw [hgd]; rfl) | (refine ⟨?_, by repeat (first | exact trivial | refine ⟨hgd, ?_⟩)⟩; (repeat' apply And.intro) <;> first | trivial | omega | (intro h2; rw [hgd, h2]; rfl) | skip)) | skip)
    (repeat (first | apply AK.seq | apply AK.block | apply AK.blk | apply AK.skip | (refine AK.reg follows_any (rs := []) (by rfl) ?_ ?_; first | exact trivial | exact ⟨trivial, trivial⟩ | exact ⟨trivial, trivial, trivial⟩ | exact ⟨trivial, trivial, trivial, trivial⟩ | fail) | fail))
    refine AK.reg follows_any (rs := []) (by rfl) ?_ ?_
    · ((repeat' apply And.intro) <;> first | trivial | omega | (simp only [List.length_nil, List.length_cons]; omega) | (intro hgd; first | (rw [hgd]; rfl) | (refine ⟨?_, by repeat (first | exact trivial | refine ⟨hgd, ?_⟩)⟩; (repeat' apply And.intro) <;> first | trivial | omega | (intro h2; rw [hgd, h2]; rfl) | skip)) | skip)
    refine AK.cond (by rfl) (fun hb => ?_) (fun hb => ?_)
    · (repeat (first | apply AK.seq | apply AK.block | apply AK.blk | apply AK.skip | (refine AK.reg follows_any (rs := []) (by rfl) ?_ ?_; first | exact trivial | exact ⟨trivial, trivial⟩ | exact ⟨trivial, trivial, trivial⟩ | exact ⟨trivial, trivial, trivial, trivial⟩ | fail) | fail))
      refine AK.reg follows_any (rs := [.v (.bool true), .v (.str (errW e)), .v (.str (errW f)), .v (.str (placeB l)), .v (.str (placeB l))]) (by rfl) ?_ ?_
      · ((repeat' apply And.intro) <;> first | trivial | omega | (simp only [List.length_nil, List.length_cons]; omega) | (intro hgd; first | (rw [hgd]; rfl) | (refine ⟨?_, by repeat (first | exact trivial | refine ⟨hgd, ?_⟩)⟩; (repeat' apply And.intro) <;> first | trivial | omega | (intro h2; rw [hgd, h2]; rfl) | skip)) | skip)
      (repeat (first | apply AK.seq | apply AK.block | apply AK.blk | apply AK.skip | (refine AK.reg follows_any (rs := []) (by rfl) ?_ ?_; first | exact trivial | exact ⟨trivial, trivial⟩ | exact ⟨trivial, trivial, trivial⟩ | exact ⟨trivial, trivial, trivial, trivial⟩ | fail) | fail))
      refine AK.ret ⟨_, rfl, ?_⟩
      exact congrArg AV.bool (by simp)
    · have hb0 : ¬ errW e = ⟨#[111, 116, 104, 101, 114]⟩ ∧ ¬ errW f = ⟨#[111, 116, 104, 101, 114]⟩ := by simpa using hb
      have hb' : errW e ≠ otherW ∧ errW f ≠ otherW := hb0
      have hij := err_inj hb'.1 hb'.2
      (repeat (first | apply AK.seq | apply AK.block | apply AK.blk | apply AK.skip | (refine AK.reg follows_any (rs := []) (by rfl) ?_ ?_; first | exact trivial | exact ⟨trivial, trivial⟩ | exact ⟨trivial, trivial, trivial⟩ | exact ⟨trivial, trivial, trivial, trivial⟩ | fail) | fail))
      refine AK.reg follows_any (rs := [.v (.bool true), .v (.str (errW e)), .v (.str (errW f)), .v (.str (placeB l)), .v (.str (placeB l))]) (by rfl) ?_ ?_
      · ((repeat' apply And.intro) <;> first | trivial | omega | (simp only [List.length_nil, List.length_cons]; omega) | (intro hgd; first | (rw [hgd]; rfl) | (refine ⟨?_, by repeat (first | exact trivial | refine ⟨hgd, ?_⟩)⟩; (repeat' apply And.intro) <;> first | trivial | omega | (intro h2; rw [hgd, h2]; rfl) | skip)) | skip)
      (repeat (first | apply AK.seq | apply AK.block | apply AK.blk | apply AK.skip | (refine AK.reg follows_any (rs := []) (by rfl) ?_ ?_; first | exact trivial | exact ⟨trivial, trivial⟩ | exact ⟨trivial, trivial, trivial⟩ | exact ⟨trivial, trivial, trivial, trivial⟩ | fail) | fail))
      refine AK.ret ⟨_, rfl, ?_⟩
      exact congrArg AV.bool (by simp [hij])
end Go.Proofs.YtamecdecpmklmaaDoor
