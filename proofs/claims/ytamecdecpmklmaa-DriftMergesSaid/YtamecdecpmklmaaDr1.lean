/-
  The document's functions on values, walked as instructions: Size, Depth, Text, Key.
-/
import Derived.Test.YtamecdecpmklmaaDriftC
import Derived.Test.YtamecdecpmklmaaEnc
import Derived.Test.YtamecdecpmklmaaPure
namespace Go.Proofs.Ytamecdecpmklmaa
set_option linter.unusedSimpArgs false
set_option linter.unusedVariables false
open Go.RowKit

theorem follows_any : Try.prog.follows .mixedOrders = true := by kernel_rfl
theorem byte_at {s : ByteArray} {k : Nat} (h : k < s.size) : s.data.getD k 0 = s[k] := by
  rw [Array.getD, dif_pos (show k < s.data.size from h)]
  rfl

theorem refSize_a (n : Nat) : ∀ v : V, v.size ≤ n → v.size ≤ 2000000000000 → AC Try.prog 39 [.agg [.int .i64 (v).kind, .bool (v).b, .int .i64 (v).n, .str (v).s, .lst .any 6 (rowsV (v).l), .lst .any 7 (rowsM (v).m)]] (.int .i64 v.size) := by
  induction n with
  | zero => intro v h; have := v.size_pos; omega
  | succ n ih =>
    intro v hn hsz
    have hve := v.size_eq
    have hll := len_le_sizeL v.l
    have hlm := len_le_sizeM v.m
    refine AC.enter Try.func39 a_ref01_Size_ok a_ref01_Size_cb (by rfl) fun E hE => ?_
    show AK _ _ _ [.c b_ref01_Size] _ _
    rw [b_ref01_Size]
    (repeat (first | apply AK.seq | apply AK.block | apply AK.blk | apply AK.skip | (refine AK.reg follows_any (rs := []) (by rfl) ?_ ?_; first | exact trivial | exact ⟨trivial, trivial⟩ | exact ⟨trivial, trivial, trivial⟩ | exact ⟨trivial, trivial, trivial, trivial⟩ | fail) | fail))
    refine AK.loopI (fun k : Nat => (frOf [(1, .ptr 1 0), (3, .int .i64 ((1 + sizeL (v.l.take k) : Nat) : Int)), (4, .int .i64 k)], ⟨boxOf [(1, [.int .i64 (v).kind, .bool (v).b, .int .i64 (v).n, .str (v).s, .lst .any 6 (rowsV (v).l), .lst .any 7 (rowsM (v).m)], false)], fun _ => 0⟩)) (fun k => k ≤ v.l.length) (fun k => v.l.length - k) 0 (by omega) (Weak.intro ⟨⟨_, rfl, .refl _⟩, ⟨_, rfl, .refl _⟩, ⟨_, rfl, .refl _⟩, trivial⟩ ⟨⟨_, rfl, leL_refl _⟩, trivial⟩ rfl rfl) fun k hk => ?_
    (repeat (first | apply AK.seq | apply AK.block | apply AK.blk | apply AK.skip | (refine AK.reg follows_any (rs := []) (by rfl) ?_ ?_; first | exact trivial | exact ⟨trivial, trivial⟩ | exact ⟨trivial, trivial, trivial⟩ | exact ⟨trivial, trivial, trivial, trivial⟩ | fail) | fail))
    refine AK.cond (by rfl) (fun hb => ?_) (fun hb => ?_)
    · have hlt : k < v.l.length := by simpa [rowsV_len] using hb
      obtain ⟨x, hg⟩ : ∃ x, v.l[k]? = some x := ⟨_, List.getElem?_eq_getElem hlt⟩
      have hx := sizeL_take hg
      have hx2 := sizeL_take_le v.l (k + 1)
      (repeat (first | apply AK.seq | apply AK.block | apply AK.blk | apply AK.skip | (refine AK.reg follows_any (rs := []) (by rfl) ?_ ?_; first | exact trivial | exact ⟨trivial, trivial⟩ | exact ⟨trivial, trivial, trivial⟩ | exact ⟨trivial, trivial, trivial, trivial⟩ | fail) | fail))
      refine AK.reg follows_any (rs := [.c [.int .i64 (x).kind, .bool (x).b, .int .i64 (x).n, .str (x).s, .lst .any 6 (rowsV (x).l), .lst .any 7 (rowsM (x).m)], .v (.int .i64 x.size)]) (by rfl) ?_ ?_
      · ((repeat' apply And.intro) <;> first | trivial | omega | (simp only [List.length_nil, List.length_cons]; omega) | (intro hgd; first | (rw [hgd]; rfl) | (refine ⟨?_, by repeat (first | exact trivial | refine ⟨hgd, ?_⟩)⟩; (repeat' apply And.intro) <;> first | trivial | omega | (intro h2; rw [hgd, h2]; rfl) | skip)) | skip)
        · exact rowsV_at hg
        · exact ih x (by omega) (by omega)
      (repeat (first | apply AK.seq | apply AK.block | apply AK.blk | apply AK.skip | (refine AK.reg follows_any (rs := []) (by rfl) ?_ ?_; first | exact trivial | exact ⟨trivial, trivial⟩ | exact ⟨trivial, trivial, trivial⟩ | exact ⟨trivial, trivial, trivial, trivial⟩ | fail) | fail))
      exact AK.lp ⟨k + 1, by omega, Weak.intro ⟨⟨_, rfl, .refl _⟩, ⟨_, rfl, .of_eq (congrArg _ (by first | omega | (rw [wrap_in (by omega) (by omega)]; omega)))⟩, ⟨_, rfl, .of_eq (congrArg _ (by first | omega | (rw [wrap_in (by omega) (by omega)]; omega)))⟩, trivial⟩ ⟨⟨_, rfl, leL_refl _⟩, trivial⟩ rfl rfl, by omega⟩
    · have hlt : k = v.l.length := by have : v.l.length ≤ k := by simpa [rowsV_len] using hb
                                      omega
      subst hlt
      rw [List.take_length]
      refine AK.exit rfl ?_
      (repeat (first | apply AK.seq | apply AK.block | apply AK.blk | apply AK.skip | (refine AK.reg follows_any (rs := []) (by rfl) ?_ ?_; first | exact trivial | exact ⟨trivial, trivial⟩ | exact ⟨trivial, trivial, trivial⟩ | exact ⟨trivial, trivial, trivial, trivial⟩ | fail) | fail))
      refine AK.loopI (fun k : Nat => (frOf [(1, .ptr 1 0), (3, .int .i64 ((1 + sizeL v.l + sizeM (v.m.take k) : Nat) : Int)), (5, .int .i64 k)], ⟨boxOf [(1, [.int .i64 (v).kind, .bool (v).b, .int .i64 (v).n, .str (v).s, .lst .any 6 (rowsV (v).l), .lst .any 7 (rowsM (v).m)], false)], fun _ => 0⟩)) (fun k => k ≤ v.m.length) (fun k => v.m.length - k) 0 (by omega) (Weak.intro ⟨⟨_, rfl, .refl _⟩, ⟨_, rfl, .refl _⟩, ⟨_, rfl, .refl _⟩, trivial⟩ ⟨⟨_, rfl, leL_refl _⟩, trivial⟩ rfl rfl) fun k hk => ?_
      (repeat (first | apply AK.seq | apply AK.block | apply AK.blk | apply AK.skip | (refine AK.reg follows_any (rs := []) (by rfl) ?_ ?_; first | exact trivial | exact ⟨trivial, trivial⟩ | exact ⟨trivial, trivial, trivial⟩ | exact ⟨trivial, trivial, trivial, trivial⟩ | fail) | fail))
      refine AK.cond (by rfl) (fun hb => ?_) (fun hb => ?_)
      · have hlt : k < v.m.length := by simpa [rowsM_len] using hb
        obtain ⟨⟨y, x⟩, hg⟩ : ∃ x, v.m[k]? = some x := ⟨_, List.getElem?_eq_getElem hlt⟩
        have hx := sizeM_take hg
        have hx2 := sizeM_take_le v.m (k + 1)
        (repeat (first | apply AK.seq | apply AK.block | apply AK.blk | apply AK.skip | (refine AK.reg follows_any (rs := []) (by rfl) ?_ ?_; first | exact trivial | exact ⟨trivial, trivial⟩ | exact ⟨trivial, trivial, trivial⟩ | exact ⟨trivial, trivial, trivial, trivial⟩ | fail) | fail))
        refine AK.reg follows_any (rs := [.c (.str y :: [.int .i64 (x).kind, .bool (x).b, .int .i64 (x).n, .str (x).s, .lst .any 6 (rowsV (x).l), .lst .any 7 (rowsM (x).m)]), .v (.int .i64 x.size)]) (by rfl) ?_ ?_
        · ((repeat' apply And.intro) <;> first | trivial | omega | (simp only [List.length_nil, List.length_cons]; omega) | (intro hgd; first | (rw [hgd]; rfl) | (refine ⟨?_, by repeat (first | exact trivial | refine ⟨hgd, ?_⟩)⟩; (repeat' apply And.intro) <;> first | trivial | omega | (intro h2; rw [hgd, h2]; rfl) | skip)) | skip)
          · exact rowsM_at hg
          · exact ih x (by omega) (by omega)
        (repeat (first | apply AK.seq | apply AK.block | apply AK.blk | apply AK.skip | (refine AK.reg follows_any (rs := []) (by rfl) ?_ ?_; first | exact trivial | exact ⟨trivial, trivial⟩ | exact ⟨trivial, trivial, trivial⟩ | exact ⟨trivial, trivial, trivial, trivial⟩ | fail) | fail))
        exact AK.lp ⟨k + 1, by omega, Weak.intro ⟨⟨_, rfl, .refl _⟩, ⟨_, rfl, .of_eq (congrArg _ (by first | omega | (rw [wrap_in (by omega) (by omega)]; omega)))⟩, ⟨_, rfl, .of_eq (congrArg _ (by first | omega | (rw [wrap_in (by omega) (by omega)]; omega)))⟩, trivial⟩ ⟨⟨_, rfl, leL_refl _⟩, trivial⟩ rfl rfl, by omega⟩
      · have hlt : k = v.m.length := by have : v.m.length ≤ k := by simpa [rowsM_len] using hb
                                        omega
        subst hlt
        rw [List.take_length]
        refine AK.exit rfl ?_
        (repeat (first | apply AK.seq | apply AK.block | apply AK.blk | apply AK.skip | (refine AK.reg follows_any (rs := []) (by rfl) ?_ ?_; first | exact trivial | exact ⟨trivial, trivial⟩ | exact ⟨trivial, trivial, trivial⟩ | exact ⟨trivial, trivial, trivial, trivial⟩ | fail) | fail))
        refine AK.ret ⟨_, rfl, ?_⟩
        rw [hve]
        rfl
theorem refDepth_a (n : Nat) : ∀ v : V, v.size ≤ n → v.size ≤ 2000000000000 → AC Try.prog 38 [.agg [.int .i64 (v).kind, .bool (v).b, .int .i64 (v).n, .str (v).s, .lst .any 6 (rowsV (v).l), .lst .any 7 (rowsM (v).m)]] (.int .i64 v.depth) := by
  induction n with
  | zero => intro v h; have := v.size_pos; omega
  | succ n ih =>
    intro v hn hsz
    have hve := v.size_eq
    have hde := v.depth_eq
    have hds := v.depth_le_size'
    have hll := len_le_sizeL v.l
    have hlm := len_le_sizeM v.m
    refine AC.enter Try.func38 a_ref01_Depth_ok a_ref01_Depth_cb (by rfl) fun E hE => ?_
    show AK _ _ _ [.c b_ref01_Depth] _ _
    rw [b_ref01_Depth]
    (repeat (first | apply AK.seq | apply AK.block | apply AK.blk | apply AK.skip | (refine AK.reg follows_any (rs := []) (by rfl) ?_ ?_; first | exact trivial | exact ⟨trivial, trivial⟩ | exact ⟨trivial, trivial, trivial⟩ | exact ⟨trivial, trivial, trivial, trivial⟩ | fail) | fail))
    refine AK.loopI (fun k : Nat => (frOf [(1, .ptr 1 0), (3, .int .i64 (depthL (v.l.take k) : Nat)), (4, .int .i64 k)], ⟨boxOf [(1, [.int .i64 (v).kind, .bool (v).b, .int .i64 (v).n, .str (v).s, .lst .any 6 (rowsV (v).l), .lst .any 7 (rowsM (v).m)], false)], fun _ => 0⟩)) (fun k => k ≤ v.l.length) (fun k => v.l.length - k) 0 (by omega) (Weak.intro ⟨⟨_, rfl, .refl _⟩, ⟨_, rfl, .refl _⟩, ⟨_, rfl, .refl _⟩, trivial⟩ ⟨⟨_, rfl, leL_refl _⟩, trivial⟩ rfl rfl) fun k hk => ?_
    (repeat (first | apply AK.seq | apply AK.block | apply AK.blk | apply AK.skip | (refine AK.reg follows_any (rs := []) (by rfl) ?_ ?_; first | exact trivial | exact ⟨trivial, trivial⟩ | exact ⟨trivial, trivial, trivial⟩ | exact ⟨trivial, trivial, trivial, trivial⟩ | fail) | fail))
    refine AK.cond (by rfl) (fun hb => ?_) (fun hb => ?_)
    · have hlt : k < v.l.length := by simpa [rowsV_len] using hb
      obtain ⟨x, hg⟩ : ∃ x, v.l[k]? = some x := ⟨_, List.getElem?_eq_getElem hlt⟩
      have hx := sizeL_take hg
      have hx2 := sizeL_take_le v.l (k + 1)
      have hd := depthL_take hg
      have hd2 := depthL_take_le v.l (k + 1)
      have hd3 := depthL_take_le v.l k
      have hd4 := x.depth_le_size'
      (repeat (first | apply AK.seq | apply AK.block | apply AK.blk | apply AK.skip | (refine AK.reg follows_any (rs := []) (by rfl) ?_ ?_; first | exact trivial | exact ⟨trivial, trivial⟩ | exact ⟨trivial, trivial, trivial⟩ | exact ⟨trivial, trivial, trivial, trivial⟩ | fail) | fail))
      refine AK.reg follows_any (rs := [.c [.int .i64 (x).kind, .bool (x).b, .int .i64 (x).n, .str (x).s, .lst .any 6 (rowsV (x).l), .lst .any 7 (rowsM (x).m)], .v (.int .i64 x.depth)]) (by rfl) ?_ ?_
      · ((repeat' apply And.intro) <;> first | trivial | omega | (simp only [List.length_nil, List.length_cons]; omega) | (intro hgd; first | (rw [hgd]; rfl) | (refine ⟨?_, by repeat (first | exact trivial | refine ⟨hgd, ?_⟩)⟩; (repeat' apply And.intro) <;> first | trivial | omega | (intro h2; rw [hgd, h2]; rfl) | skip)) | skip)
        · exact rowsV_at hg
        · exact ih x (by omega) (by omega)
      (repeat (first | apply AK.seq | apply AK.block | apply AK.blk | apply AK.skip | (refine AK.reg follows_any (rs := []) (by rfl) ?_ ?_; first | exact trivial | exact ⟨trivial, trivial⟩ | exact ⟨trivial, trivial, trivial⟩ | exact ⟨trivial, trivial, trivial, trivial⟩ | fail) | fail))
      refine AK.cond (by rfl) (fun hb => ?_) (fun hb => ?_)
      · have hm : depthL (v.l.take k) < x.depth := by simpa using hb
        (repeat (first | apply AK.seq | apply AK.block | apply AK.blk | apply AK.skip | (refine AK.reg follows_any (rs := []) (by rfl) ?_ ?_; first | exact trivial | exact ⟨trivial, trivial⟩ | exact ⟨trivial, trivial, trivial⟩ | exact ⟨trivial, trivial, trivial, trivial⟩ | fail) | fail))
        exact AK.lp ⟨k + 1, by omega, Weak.intro ⟨⟨_, rfl, .refl _⟩, ⟨_, rfl, .of_eq (congrArg _ (by first | omega | (rw [wrap_in (by omega) (by omega)]; omega)))⟩, ⟨_, rfl, .of_eq (congrArg _ (by first | omega | (rw [wrap_in (by omega) (by omega)]; omega)))⟩, trivial⟩ ⟨⟨_, rfl, leL_refl _⟩, trivial⟩ rfl rfl, by omega⟩
      · have hm : x.depth ≤ depthL (v.l.take k) := by simpa using hb
        (repeat (first | apply AK.seq | apply AK.block | apply AK.blk | apply AK.skip | (refine AK.reg follows_any (rs := []) (by rfl) ?_ ?_; first | exact trivial | exact ⟨trivial, trivial⟩ | exact ⟨trivial, trivial, trivial⟩ | exact ⟨trivial, trivial, trivial, trivial⟩ | fail) | fail))
        exact AK.lp ⟨k + 1, by omega, Weak.intro ⟨⟨_, rfl, .refl _⟩, ⟨_, rfl, .of_eq (congrArg _ (by first | omega | (rw [wrap_in (by omega) (by omega)]; omega)))⟩, ⟨_, rfl, .of_eq (congrArg _ (by first | omega | (rw [wrap_in (by omega) (by omega)]; omega)))⟩, trivial⟩ ⟨⟨_, rfl, leL_refl _⟩, trivial⟩ rfl rfl, by omega⟩
    · have hlt : k = v.l.length := by have : v.l.length ≤ k := by simpa [rowsV_len] using hb
                                      omega
      subst hlt
      rw [List.take_length]
      refine AK.exit rfl ?_
      (repeat (first | apply AK.seq | apply AK.block | apply AK.blk | apply AK.skip | (refine AK.reg follows_any (rs := []) (by rfl) ?_ ?_; first | exact trivial | exact ⟨trivial, trivial⟩ | exact ⟨trivial, trivial, trivial⟩ | exact ⟨trivial, trivial, trivial, trivial⟩ | fail) | fail))
      refine AK.loopI (fun k : Nat => (frOf [(1, .ptr 1 0), (3, .int .i64 (max (depthL v.l) (depthM (v.m.take k)) : Nat)), (6, .int .i64 k)], ⟨boxOf [(1, [.int .i64 (v).kind, .bool (v).b, .int .i64 (v).n, .str (v).s, .lst .any 6 (rowsV (v).l), .lst .any 7 (rowsM (v).m)], false)], fun _ => 0⟩)) (fun k => k ≤ v.m.length) (fun k => v.m.length - k) 0 (by omega) (Weak.intro ⟨⟨_, rfl, .refl _⟩, ⟨_, rfl, .of_eq (by simp [depthM])⟩, ⟨_, rfl, .refl _⟩, trivial⟩ ⟨⟨_, rfl, leL_refl _⟩, trivial⟩ rfl rfl) fun k hk => ?_
      (repeat (first | apply AK.seq | apply AK.block | apply AK.blk | apply AK.skip | (refine AK.reg follows_any (rs := []) (by rfl) ?_ ?_; first | exact trivial | exact ⟨trivial, trivial⟩ | exact ⟨trivial, trivial, trivial⟩ | exact ⟨trivial, trivial, trivial, trivial⟩ | fail) | fail))
      refine AK.cond (by rfl) (fun hb => ?_) (fun hb => ?_)
      · have hlt : k < v.m.length := by simpa [rowsM_len] using hb
        obtain ⟨⟨y, x⟩, hg⟩ : ∃ x, v.m[k]? = some x := ⟨_, List.getElem?_eq_getElem hlt⟩
        have hx := sizeM_take hg
        have hx2 := sizeM_take_le v.m (k + 1)
        have hd := depthM_take hg
        have hd2 := depthM_take_le v.m (k + 1)
        have hd3 := depthM_take_le v.m k
        have hd4 := x.depth_le_size'
        (repeat (first | apply AK.seq | apply AK.block | apply AK.blk | apply AK.skip | (refine AK.reg follows_any (rs := []) (by rfl) ?_ ?_; first | exact trivial | exact ⟨trivial, trivial⟩ | exact ⟨trivial, trivial, trivial⟩ | exact ⟨trivial, trivial, trivial, trivial⟩ | fail) | fail))
        refine AK.reg follows_any (rs := [.c (.str y :: [.int .i64 (x).kind, .bool (x).b, .int .i64 (x).n, .str (x).s, .lst .any 6 (rowsV (x).l), .lst .any 7 (rowsM (x).m)]), .v (.int .i64 x.depth)]) (by rfl) ?_ ?_
        · ((repeat' apply And.intro) <;> first | trivial | omega | (simp only [List.length_nil, List.length_cons]; omega) | (intro hgd; first | (rw [hgd]; rfl) | (refine ⟨?_, by repeat (first | exact trivial | refine ⟨hgd, ?_⟩)⟩; (repeat' apply And.intro) <;> first | trivial | omega | (intro h2; rw [hgd, h2]; rfl) | skip)) | skip)
          · exact rowsM_at hg
          · exact ih x (by omega) (by omega)
        (repeat (first | apply AK.seq | apply AK.block | apply AK.blk | apply AK.skip | (refine AK.reg follows_any (rs := []) (by rfl) ?_ ?_; first | exact trivial | exact ⟨trivial, trivial⟩ | exact ⟨trivial, trivial, trivial⟩ | exact ⟨trivial, trivial, trivial, trivial⟩ | fail) | fail))
        refine AK.cond (by rfl) (fun hb => ?_) (fun hb => ?_)
        · have hm : max (depthL v.l) (depthM (v.m.take k)) < x.depth := by simpa using hb
          (repeat (first | apply AK.seq | apply AK.block | apply AK.blk | apply AK.skip | (refine AK.reg follows_any (rs := []) (by rfl) ?_ ?_; first | exact trivial | exact ⟨trivial, trivial⟩ | exact ⟨trivial, trivial, trivial⟩ | exact ⟨trivial, trivial, trivial, trivial⟩ | fail) | fail))
          exact AK.lp ⟨k + 1, by omega, Weak.intro ⟨⟨_, rfl, .refl _⟩, ⟨_, rfl, .of_eq (congrArg _ (by first | omega | (rw [wrap_in (by omega) (by omega)]; omega)))⟩, ⟨_, rfl, .of_eq (congrArg _ (by first | omega | (rw [wrap_in (by omega) (by omega)]; omega)))⟩, trivial⟩ ⟨⟨_, rfl, leL_refl _⟩, trivial⟩ rfl rfl, by omega⟩
        · have hm : x.depth ≤ max (depthL v.l) (depthM (v.m.take k)) := by simpa using hb
          (repeat (first | apply AK.seq | apply AK.block | apply AK.blk | apply AK.skip | (refine AK.reg follows_any (rs := []) (by rfl) ?_ ?_; first | exact trivial | exact ⟨trivial, trivial⟩ | exact ⟨trivial, trivial, trivial⟩ | exact ⟨trivial, trivial, trivial, trivial⟩ | fail) | fail))
          exact AK.lp ⟨k + 1, by omega, Weak.intro ⟨⟨_, rfl, .refl _⟩, ⟨_, rfl, .of_eq (congrArg _ (by first | omega | (rw [wrap_in (by omega) (by omega)]; omega)))⟩, ⟨_, rfl, .of_eq (congrArg _ (by first | omega | (rw [wrap_in (by omega) (by omega)]; omega)))⟩, trivial⟩ ⟨⟨_, rfl, leL_refl _⟩, trivial⟩ rfl rfl, by omega⟩
      · have hlt : k = v.m.length := by have : v.m.length ≤ k := by simpa [rowsM_len] using hb
                                        omega
        subst hlt
        rw [List.take_length]
        refine AK.exit rfl ?_
        (repeat (first | apply AK.seq | apply AK.block | apply AK.blk | apply AK.skip | (refine AK.reg follows_any (rs := []) (by rfl) ?_ ?_; first | exact trivial | exact ⟨trivial, trivial⟩ | exact ⟨trivial, trivial, trivial⟩ | exact ⟨trivial, trivial, trivial, trivial⟩ | fail) | fail))
        refine AK.ret ⟨_, rfl, ?_⟩
        rw [wrap_in (by omega) (by omega), hde]
        rfl
theorem refKey_a (s : ByteArray) (hs : s.size ≤ 140737488355328) : AC Try.prog 11 [.str s] (.bool (keyB s)) := by
  refine AC.enter Try.func11 a_ref01_Key_ok a_ref01_Key_cb (by rfl) fun E hE => ?_
  show AK _ _ _ [.c b_ref01_Key] _ _
  rw [b_ref01_Key]
  (repeat (first | apply AK.seq | apply AK.block | apply AK.blk | apply AK.skip | (refine AK.reg follows_any (rs := []) (by rfl) ?_ ?_; first | exact trivial | exact ⟨trivial, trivial⟩ | exact ⟨trivial, trivial, trivial⟩ | exact ⟨trivial, trivial, trivial, trivial⟩ | fail) | fail))
  refine AK.loopI (fun k : Nat => (frOf [(0, .str s), (3, .int .i64 k)], ⟨boxOf [], fun _ => 0⟩)) (fun k => k ≤ s.size ∧ allTo okK s k) (fun k => s.size - k) 0 ⟨by omega, allTo_zero _ _⟩ (Weak.intro ⟨⟨_, rfl, .refl _⟩, ⟨_, rfl, .refl _⟩, trivial⟩ trivial rfl rfl) fun k ⟨hk, hno⟩ => ?_
  (repeat (first | apply AK.seq | apply AK.block | apply AK.blk | apply AK.skip | (refine AK.reg follows_any (rs := []) (by rfl) ?_ ?_; first | exact trivial | exact ⟨trivial, trivial⟩ | exact ⟨trivial, trivial, trivial⟩ | exact ⟨trivial, trivial, trivial, trivial⟩ | fail) | fail))
  refine AK.cond (by rfl) (fun hb => ?_) (fun hb => ?_)
  · have hlt : k < s.size := by simpa using hb
    (repeat (first | apply AK.seq | apply AK.block | apply AK.blk | apply AK.skip | (refine AK.reg follows_any (rs := []) (by rfl) ?_ ?_; first | exact trivial | exact ⟨trivial, trivial⟩ | exact ⟨trivial, trivial, trivial⟩ | exact ⟨trivial, trivial, trivial, trivial⟩ | fail) | fail))
    refine AK.reg follows_any (rs := []) (by rfl) ?_ ?_
    · ((repeat' apply And.intro) <;> first | trivial | omega | (simp only [List.length_nil, List.length_cons]; omega) | (intro hgd; first | (rw [hgd]; rfl) | (refine ⟨?_, by repeat (first | exact trivial | refine ⟨hgd, ?_⟩)⟩; (repeat' apply And.intro) <;> first | trivial | omega | (intro h2; rw [hgd, h2]; rfl) | skip)) | skip)
    rw [show s.data.getD (k : Int).toNat 0 = s[k] from byte_at hlt]
    refine AK.cond (by rfl) (fun hb => ?_) (fun hb => ?_)
    · (repeat (first | apply AK.seq | apply AK.block | apply AK.blk | apply AK.skip | (refine AK.reg follows_any (rs := []) (by rfl) ?_ ?_; first | exact trivial | exact ⟨trivial, trivial⟩ | exact ⟨trivial, trivial, trivial⟩ | exact ⟨trivial, trivial, trivial, trivial⟩ | fail) | fail))
      refine AK.ret ⟨_, rfl, ?_⟩
      have hf : okK s[k] = false := by
        simp only [Bool.or_eq_true, decide_eq_true_eq] at hb
        simp only [okK, Bool.and_eq_false_iff, decide_eq_false_iff_not]
        omega
      rw [keyB, allB_false hlt hf]
      rfl
    · have ht : okK s[k] = true := by
        simp only [Bool.or_eq_false_iff, decide_eq_false_iff_not] at hb
        simp only [okK, Bool.and_eq_true, decide_eq_true_eq]
        omega
      (repeat (first | apply AK.seq | apply AK.block | apply AK.blk | apply AK.skip | (refine AK.reg follows_any (rs := []) (by rfl) ?_ ?_; first | exact trivial | exact ⟨trivial, trivial⟩ | exact ⟨trivial, trivial, trivial⟩ | exact ⟨trivial, trivial, trivial, trivial⟩ | fail) | fail))
      exact AK.lp ⟨k + 1, ⟨by omega, allTo_succ hno hlt ht⟩, Weak.intro ⟨⟨_, rfl, .refl _⟩, ⟨_, rfl, .of_eq (congrArg _ (by first | omega | (rw [wrap_in (by omega) (by omega)]; omega)))⟩, trivial⟩ trivial rfl rfl, by omega⟩
  · have hlt : k = s.size := by have : s.size ≤ k := by simpa using hb
                                omega
    subst hlt
    refine AK.exit rfl ?_
    (repeat (first | apply AK.seq | apply AK.block | apply AK.blk | apply AK.skip | (refine AK.reg follows_any (rs := []) (by rfl) ?_ ?_; first | exact trivial | exact ⟨trivial, trivial⟩ | exact ⟨trivial, trivial, trivial⟩ | exact ⟨trivial, trivial, trivial, trivial⟩ | fail) | fail))
    refine AK.reg follows_any (rs := []) (by rfl) ?_ ?_
    · ((repeat' apply And.intro) <;> first | trivial | omega | (simp only [List.length_nil, List.length_cons]; omega) | (intro hgd; first | (rw [hgd]; rfl) | (refine ⟨?_, by repeat (first | exact trivial | refine ⟨hgd, ?_⟩)⟩; (repeat' apply And.intro) <;> first | trivial | omega | (intro h2; rw [hgd, h2]; rfl) | skip)) | skip)
    (repeat (first | apply AK.seq | apply AK.block | apply AK.blk | apply AK.skip | (refine AK.reg follows_any (rs := []) (by rfl) ?_ ?_; first | exact trivial | exact ⟨trivial, trivial⟩ | exact ⟨trivial, trivial, trivial⟩ | exact ⟨trivial, trivial, trivial, trivial⟩ | fail) | fail))
    refine AK.ret ⟨_, rfl, ?_⟩
    show AV.bool _ = AV.bool _
    refine congrArg AV.bool ?_
    rw [keyB, allB_true hno, Bool.eq_iff_iff]
    simp
    try omega
theorem refText_a (s : ByteArray) (hs : s.size ≤ 140737488355328) : AC Try.prog 51 [.str s] (.bool (textB s)) := by
  refine AC.enter Try.func51 a_ref01_Text_ok a_ref01_Text_cb (by rfl) fun E hE => ?_
  show AK _ _ _ [.c b_ref01_Text] _ _
  rw [b_ref01_Text]
  (repeat (first | apply AK.seq | apply AK.block | apply AK.blk | apply AK.skip | (refine AK.reg follows_any (rs := []) (by rfl) ?_ ?_; first | exact trivial | exact ⟨trivial, trivial⟩ | exact ⟨trivial, trivial, trivial⟩ | exact ⟨trivial, trivial, trivial, trivial⟩ | fail) | fail))
  refine AK.loopI (fun k : Nat => (frOf [(0, .str s), (3, .int .i64 k)], ⟨boxOf [], fun _ => 0⟩)) (fun k => k ≤ s.size ∧ allTo okT s k) (fun k => s.size - k) 0 ⟨by omega, allTo_zero _ _⟩ (Weak.intro ⟨⟨_, rfl, .refl _⟩, ⟨_, rfl, .refl _⟩, trivial⟩ trivial rfl rfl) fun k ⟨hk, hno⟩ => ?_
  (repeat (first | apply AK.seq | apply AK.block | apply AK.blk | apply AK.skip | (refine AK.reg follows_any (rs := []) (by rfl) ?_ ?_; first | exact trivial | exact ⟨trivial, trivial⟩ | exact ⟨trivial, trivial, trivial⟩ | exact ⟨trivial, trivial, trivial, trivial⟩ | fail) | fail))
  refine AK.cond (by rfl) (fun hb => ?_) (fun hb => ?_)
  · have hlt : k < s.size := by simpa using hb
    (repeat (first | apply AK.seq | apply AK.block | apply AK.blk | apply AK.skip | (refine AK.reg follows_any (rs := []) (by rfl) ?_ ?_; first | exact trivial | exact ⟨trivial, trivial⟩ | exact ⟨trivial, trivial, trivial⟩ | exact ⟨trivial, trivial, trivial, trivial⟩ | fail) | fail))
    refine AK.reg follows_any (rs := []) (by rfl) ?_ ?_
    · ((repeat' apply And.intro) <;> first | trivial | omega | (simp only [List.length_nil, List.length_cons]; omega) | (intro hgd; first | (rw [hgd]; rfl) | (refine ⟨?_, by repeat (first | exact trivial | refine ⟨hgd, ?_⟩)⟩; (repeat' apply And.intro) <;> first | trivial | omega | (intro h2; rw [hgd, h2]; rfl) | skip)) | skip)
    rw [show s.data.getD (k : Int).toNat 0 = s[k] from byte_at hlt]
    refine AK.cond (by rfl) (fun hb => ?_) (fun hb => ?_)
    · (repeat (first | apply AK.seq | apply AK.block | apply AK.blk | apply AK.skip | (refine AK.reg follows_any (rs := []) (by rfl) ?_ ?_; first | exact trivial | exact ⟨trivial, trivial⟩ | exact ⟨trivial, trivial, trivial⟩ | exact ⟨trivial, trivial, trivial, trivial⟩ | fail) | fail))
      refine AK.ret ⟨_, rfl, ?_⟩
      have hf : okT s[k] = false := by
        simp only [Bool.or_eq_true, Bool.and_eq_true, Bool.not_eq_true', decide_eq_true_eq, decide_eq_false_iff_not] at hb
        simp only [okT, Bool.or_eq_false_iff, Bool.and_eq_false_iff, decide_eq_false_iff_not, beq_eq_false_iff_ne, ne_eq]
        omega
      rw [textB, allB_false hlt hf]
      rfl
    · have ht : okT s[k] = true := by
        simp only [Bool.or_eq_false_iff, Bool.and_eq_false_iff, Bool.not_eq_false', decide_eq_true_eq, decide_eq_false_iff_not] at hb
        simp only [okT, Bool.or_eq_true, Bool.and_eq_true, decide_eq_true_eq, beq_iff_eq]
        omega
      (repeat (first | apply AK.seq | apply AK.block | apply AK.blk | apply AK.skip | (refine AK.reg follows_any (rs := []) (by rfl) ?_ ?_; first | exact trivial | exact ⟨trivial, trivial⟩ | exact ⟨trivial, trivial, trivial⟩ | exact ⟨trivial, trivial, trivial, trivial⟩ | fail) | fail))
      exact AK.lp ⟨k + 1, ⟨by omega, allTo_succ hno hlt ht⟩, Weak.intro ⟨⟨_, rfl, .refl _⟩, ⟨_, rfl, .of_eq (congrArg _ (by first | omega | (rw [wrap_in (by omega) (by omega)]; omega)))⟩, trivial⟩ trivial rfl rfl, by omega⟩
  · have hlt : k = s.size := by have : s.size ≤ k := by simpa using hb
                                omega
    subst hlt
    refine AK.exit rfl ?_
    (repeat (first | apply AK.seq | apply AK.block | apply AK.blk | apply AK.skip | (refine AK.reg follows_any (rs := []) (by rfl) ?_ ?_; first | exact trivial | exact ⟨trivial, trivial⟩ | exact ⟨trivial, trivial, trivial⟩ | exact ⟨trivial, trivial, trivial, trivial⟩ | fail) | fail))
    refine AK.ret ⟨_, rfl, ?_⟩
    show AV.bool _ = AV.bool _
    refine congrArg AV.bool ?_
    rw [textB, allB_true hno, Bool.eq_iff_iff]
    simp
    try omega
end Go.Proofs.Ytamecdecpmklmaa
