/-
  Words: what an error is called by the document, walked; the program's texts, walked (strings.IndexByte, Quote and strings.Join by their contracts).
-/
import Derived.Test.YtamecdecpmklmaaDoorRp3
namespace Go.Proofs.YtamecdecpmklmaaDoor
set_option linter.unusedSimpArgs false
set_option linter.unusedVariables false
open Go.RowKit

def lowW : List ByteArray := [⟨#[111, 107]⟩, ⟨#[97, 114, 103]⟩, ⟨#[110, 105, 108]⟩, ⟨#[110, 111, 110, 101]⟩, ⟨#[116, 104, 101, 114, 101]⟩, ⟨#[100, 101, 101, 112]⟩, ⟨#[115, 105, 122, 101]⟩, ⟨#[107, 101, 121]⟩, ⟨#[107, 105, 110, 100]⟩, ⟨#[111, 118, 101, 114]⟩, ⟨#[102, 111, 114, 109]⟩, ⟨#[113, 117, 111, 116, 101]⟩, ⟨#[105, 110, 100, 101, 110, 116]⟩, ⟨#[116, 119, 105, 99, 101]⟩]
def middleW : List ByteArray := [⟨#[116, 111, 107, 101, 110]⟩, ⟨#[99, 108, 111, 115, 101]⟩, ⟨#[110, 97, 109, 101]⟩, ⟨#[102, 117, 101, 108]⟩, ⟨#[99, 97, 108, 108]⟩, ⟨#[99, 104, 97, 114, 116]⟩, ⟨#[105, 100, 101, 110, 116]⟩]
def highW : List ByteArray := [⟨#[115, 116, 111, 114, 101]⟩, ⟨#[99, 114, 97, 115, 104]⟩, ⟨#[115, 116, 97, 108, 101]⟩, ⟨#[104, 111, 111, 107]⟩, ⟨#[98, 117, 115, 121]⟩, ⟨#[114, 101, 99, 111, 114, 100]⟩]
def otherW : ByteArray := ⟨#[111, 116, 104, 101, 114]⟩
/-- what an error is called -/
def errW (e : Int) : ByteArray :=
  if 0 ≤ e ∧ e ≤ 13 then lowW.getD e.toNat otherW
  else if 20 ≤ e ∧ e ≤ 26 then middleW.getD (e - 20).toNat otherW
  else if 30 ≤ e ∧ e ≤ 35 then highW.getD (e - 30).toNat otherW
  else otherW
theorem rowsW_getD {l : List ByteArray} {k : Nat} (h : k < l.length) : (rowsW l)[k]? = some [.str (l.getD k otherW)] :=
  rowsW_at (by rw [List.getD_eq_getElem?_getD, List.getElem?_eq_getElem h]; rfl)
theorem refError_a (e : Int) : AC Tryd.prog 6 [.int .i64 e] (.str (errW e)) := by
  refine AC.enter Tryd.func6 a_ref23_Error_ok a_ref23_Error_cb (by rfl) fun E hE => ?_
  show AK _ _ _ [.c b_ref23_Error] _ _
  rw [b_ref23_Error]
  (repeat (first | apply AK.seq | apply AK.block | apply AK.blk | apply AK.skip | (refine AK.reg follows_any (rs := []) (by rfl) ?_ ?_; first | exact trivial | exact ⟨trivial, trivial⟩ | exact ⟨trivial, trivial, trivial⟩ | exact ⟨trivial, trivial, trivial, trivial⟩ | fail) | fail))
  refine AK.reg follows_any (rs := []) (by rfl) ?_ ?_
  · ((repeat' apply And.intro) <;> first | trivial | omega | (simp only [List.length_nil, List.length_cons]; omega) | (intro hgd; first | (rw [hgd]; rfl) | (refine ⟨?_, by repeat (first | exact trivial | refine ⟨hgd, ?_⟩)⟩; (repeat' apply And.intro) <;> first | trivial | omega | (intro h2; rw [hgd, h2]; rfl) | skip)) | skip)
  refine AK.cond (by rfl) (fun hb => ?_) (fun hb => ?_)
  · have h : 0 ≤ e ∧ e ≤ 13 := by simpa using hb
    (repeat (first | apply AK.seq | apply AK.block | apply AK.blk | apply AK.skip | (refine AK.reg follows_any (rs := []) (by rfl) ?_ ?_; first | exact trivial | exact ⟨trivial, trivial⟩ | exact ⟨trivial, trivial, trivial⟩ | exact ⟨trivial, trivial, trivial, trivial⟩ | fail) | fail))
    refine AK.reg follows_any (rs := [.c [.str (lowW.getD e.toNat otherW)]]) (by rfl) ?_ ?_
    · ((repeat' apply And.intro) <;> first | trivial | omega | (simp only [List.length_nil, List.length_cons]; omega) | (intro hgd; first | (rw [hgd]; rfl) | (refine ⟨?_, by repeat (first | exact trivial | refine ⟨hgd, ?_⟩)⟩; (repeat' apply And.intro) <;> first | trivial | omega | (intro h2; rw [hgd, h2]; rfl) | skip)) | skip)
      all_goals first | exact rowsW_getD (l := lowW) (by show e.toNat < 14; omega) | (show e.toNat < 14; omega) | (show e < 14; omega)
    (repeat (first | apply AK.seq | apply AK.block | apply AK.blk | apply AK.skip | (refine AK.reg follows_any (rs := []) (by rfl) ?_ ?_; first | exact trivial | exact ⟨trivial, trivial⟩ | exact ⟨trivial, trivial, trivial⟩ | exact ⟨trivial, trivial, trivial, trivial⟩ | fail) | fail))
    refine AK.ret ⟨_, rfl, ?_⟩
    rw [errW, if_pos h]
    rfl
  have h1 : ¬ (0 ≤ e ∧ e ≤ 13) := by
    intro h; revert hb; simp [h.1, h.2]
  (repeat (first | apply AK.seq | apply AK.block | apply AK.blk | apply AK.skip | (refine AK.reg follows_any (rs := []) (by rfl) ?_ ?_; first | exact trivial | exact ⟨trivial, trivial⟩ | exact ⟨trivial, trivial, trivial⟩ | exact ⟨trivial, trivial, trivial, trivial⟩ | fail) | fail))
  refine AK.reg follows_any (rs := []) (by rfl) ?_ ?_
  · ((repeat' apply And.intro) <;> first | trivial | omega | (simp only [List.length_nil, List.length_cons]; omega) | (intro hgd; first | (rw [hgd]; rfl) | (refine ⟨?_, by repeat (first | exact trivial | refine ⟨hgd, ?_⟩)⟩; (repeat' apply And.intro) <;> first | trivial | omega | (intro h2; rw [hgd, h2]; rfl) | skip)) | skip)
  refine AK.cond (by rfl) (fun hb => ?_) (fun hb => ?_)
  · have h : 20 ≤ e ∧ e ≤ 26 := by simpa using hb
    have hw : IntKind.i64.wrap (e - 20) = e - 20 := wrap_in (by omega) (by omega)
    (repeat (first | apply AK.seq | apply AK.block | apply AK.blk | apply AK.skip | (refine AK.reg follows_any (rs := []) (by rfl) ?_ ?_; first | exact trivial | exact ⟨trivial, trivial⟩ | exact ⟨trivial, trivial, trivial⟩ | exact ⟨trivial, trivial, trivial, trivial⟩ | fail) | fail))
    refine AK.reg follows_any (rs := [.c [.str (middleW.getD (e - 20).toNat otherW)]]) (by rfl) ?_ ?_
    · ((repeat' apply And.intro) <;> first | trivial | omega | (simp only [List.length_nil, List.length_cons]; omega) | (intro hgd; first | (rw [hgd]; rfl) | (refine ⟨?_, by repeat (first | exact trivial | refine ⟨hgd, ?_⟩)⟩; (repeat' apply And.intro) <;> first | trivial | omega | (intro h2; rw [hgd, h2]; rfl) | skip)) | skip)
      all_goals rw [hw]
      all_goals first | exact rowsW_getD (l := middleW) (by show (e - 20).toNat < 7; omega) | (show (e - 20).toNat < 7; omega) | (show e - 20 < 7; omega) | omega
    (repeat (first | apply AK.seq | apply AK.block | apply AK.blk | apply AK.skip | (refine AK.reg follows_any (rs := []) (by rfl) ?_ ?_; first | exact trivial | exact ⟨trivial, trivial⟩ | exact ⟨trivial, trivial, trivial⟩ | exact ⟨trivial, trivial, trivial, trivial⟩ | fail) | fail))
    refine AK.ret ⟨_, rfl, ?_⟩
    rw [errW, if_neg h1, if_pos h]
    rfl
  have h2 : ¬ (20 ≤ e ∧ e ≤ 26) := by
    intro h; revert hb; simp [h.1, h.2]
  (repeat (first | apply AK.seq | apply AK.block | apply AK.blk | apply AK.skip | (refine AK.reg follows_any (rs := []) (by rfl) ?_ ?_; first | exact trivial | exact ⟨trivial, trivial⟩ | exact ⟨trivial, trivial, trivial⟩ | exact ⟨trivial, trivial, trivial, trivial⟩ | fail) | fail))
  refine AK.reg follows_any (rs := []) (by rfl) ?_ ?_
  · ((repeat' apply And.intro) <;> first | trivial | omega | (simp only [List.length_nil, List.length_cons]; omega) | (intro hgd; first | (rw [hgd]; rfl) | (refine ⟨?_, by repeat (first | exact trivial | refine ⟨hgd, ?_⟩)⟩; (repeat' apply And.intro) <;> first | trivial | omega | (intro h2; rw [hgd, h2]; rfl) | skip)) | skip)
  refine AK.cond (by rfl) (fun hb => ?_) (fun hb => ?_)
  · have h : 30 ≤ e ∧ e ≤ 35 := by simpa using hb
    have hw : IntKind.i64.wrap (e - 30) = e - 30 := wrap_in (by omega) (by omega)
    (repeat (first | apply AK.seq | apply AK.block | apply AK.blk | apply AK.skip | (refine AK.reg follows_any (rs := []) (by rfl) ?_ ?_; first | exact trivial | exact ⟨trivial, trivial⟩ | exact ⟨trivial, trivial, trivial⟩ | exact ⟨trivial, trivial, trivial, trivial⟩ | fail) | fail))
    refine AK.reg follows_any (rs := [.c [.str (highW.getD (e - 30).toNat otherW)]]) (by rfl) ?_ ?_
    · ((repeat' apply And.intro) <;> first | trivial | omega | (simp only [List.length_nil, List.length_cons]; omega) | (intro hgd; first | (rw [hgd]; rfl) | (refine ⟨?_, by repeat (first | exact trivial | refine ⟨hgd, ?_⟩)⟩; (repeat' apply And.intro) <;> first | trivial | omega | (intro h2; rw [hgd, h2]; rfl) | skip)) | skip)
      all_goals rw [hw]
      all_goals first | exact rowsW_getD (l := highW) (by show (e - 30).toNat < 6; omega) | (show (e - 30).toNat < 6; omega) | (show e - 30 < 6; omega) | omega
    (repeat (first | apply AK.seq | apply AK.block | apply AK.blk | apply AK.skip | (refine AK.reg follows_any (rs := []) (by rfl) ?_ ?_; first | exact trivial | exact ⟨trivial, trivial⟩ | exact ⟨trivial, trivial, trivial⟩ | exact ⟨trivial, trivial, trivial, trivial⟩ | fail) | fail))
    refine AK.ret ⟨_, rfl, ?_⟩
    rw [errW, if_neg h1, if_neg h2, if_pos h]
    rfl
  have h3 : ¬ (30 ≤ e ∧ e ≤ 35) := by
    intro h; revert hb; simp [h.1, h.2]
  (repeat (first | apply AK.seq | apply AK.block | apply AK.blk | apply AK.skip | (refine AK.reg follows_any (rs := []) (by rfl) ?_ ?_; first | exact trivial | exact ⟨trivial, trivial⟩ | exact ⟨trivial, trivial, trivial⟩ | exact ⟨trivial, trivial, trivial, trivial⟩ | fail) | fail))
  refine AK.ret ⟨_, rfl, ?_⟩
  rw [errW, if_neg h1, if_neg h2, if_neg h3]
  rfl
end Go.Proofs.YtamecdecpmklmaaDoor
