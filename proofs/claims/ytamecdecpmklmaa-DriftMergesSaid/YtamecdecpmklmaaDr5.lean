/-
  The document's functions Leaves, Get along a path, Begins, walked as instructions.
-/
import Derived.Test.YtamecdecpmklmaaDr4
namespace Go.Proofs.Ytamecdecpmklmaa
set_option linter.unusedSimpArgs false
set_option linter.unusedVariables false
open Go.RowKit

/-- a path's rows, leaves' rows -/
def rowsP (p : Path) : List (List AV) := p.map fun s => [.str s]
def rowsLf (l : List (Path × V)) : List (List AV) := l.map fun q => .lst .any 1 (rowsP q.1) :: cellsV q.2
theorem rowsLf_append (a b : List (Path × V)) : rowsLf (a ++ b) = rowsLf a ++ rowsLf b := List.map_append
theorem rowsLf_len (l : List (Path × V)) : (rowsLf l).length = l.length := List.length_map _
theorem rowsP_len (l : Path) : (rowsP l).length = l.length := List.length_map _
theorem rowsP_at {l : Path} {k : Nat} {s : ByteArray} (h : l[k]? = some s) : (rowsP l)[k]? = some [.str s] := by simp [rowsP, h]
theorem rowsLf_at {l : List (Path × V)} {k : Nat} {p : Path} {x : V} (h : l[k]? = some (p, x)) :
    (rowsLf l)[k]? = some [.lst .any 1 (rowsP p), .int .i64 x.kind, .bool x.b, .int .i64 x.n, .str x.s, .lst .any 6 (rowsV x.l), .lst .any 7 (rowsM x.m)] := by simp [rowsLf, h, cellsV_eq]
theorem leavesM_take_le {m : List (ByteArray × V)} : (leavesM m).length ≤ sizeM m := by
  induction m with
  | nil => simp [leavesM]
  | cons p m ih =>
    obtain ⟨y, x⟩ := p
    have := x.leaves_len
    simp [leavesM, sizeM]
    omega

set_option maxRecDepth 4000 in
theorem refLeaves_a (n : Nat) : ∀ v : V, v.size ≤ n → v.size ≤ 1000000 → AC Try.prog 12 [.agg [.int .i64 (v).kind, .bool (v).b, .int .i64 (v).n, .str (v).s, .lst .any 6 (rowsV (v).l), .lst .any 7 (rowsM (v).m)]] (.lst .any 7 (rowsLf v.leaves)) := by
  induction n with
  | zero => intro v h; have := v.size_pos; omega
  | succ n ih =>
    intro v hn hsz
    have hve := v.size_eq
    have hde := v.depth_eq
    have hds := v.depth_le_size'
    have hlm := len_le_sizeM v.m
    have hle := V.leaves_eq v
    refine AC.enter Try.func12 a_ref02_Leaves_ok a_ref02_Leaves_cb (by rfl) fun E hE => ?_
    show AK _ _ _ [.c b_ref02_Leaves] _ _
    rw [b_ref02_Leaves]
    (repeat (first | apply AK.seq | apply AK.block | apply AK.blk | apply AK.skip | (refine AK.reg follows_any (rs := []) (by rfl) ?_ ?_; first | exact trivial | exact ⟨trivial, trivial⟩ | exact ⟨trivial, trivial, trivial⟩ | exact ⟨trivial, trivial, trivial, trivial⟩ | fail) | fail))
    refine AK.cond (by rfl) (fun hb => ?_) (fun hb => ?_)
    · have h0 : v.m = [] := by simpa [rowsM_len] using hb
      rw [h0] at hle
      simp at hle
      rw [hle]
      (repeat (first | apply AK.seq | apply AK.block | apply AK.blk | apply AK.skip | (refine AK.reg follows_any (rs := []) (by rfl) ?_ ?_; first | exact trivial | exact ⟨trivial, trivial⟩ | exact ⟨trivial, trivial, trivial⟩ | exact ⟨trivial, trivial, trivial, trivial⟩ | fail) | fail))
      refine AK.ret ⟨_, rfl, ?_⟩
      simp only [rowsLf, List.map_cons, List.map_nil, cellsV_eq]
      rfl
    have h0 : v.m ≠ [] := by simpa [rowsM_len] using hb
    rw [if_neg (by simpa using h0)] at hle
    (repeat (first | apply AK.seq | apply AK.block | apply AK.blk | apply AK.skip | (refine AK.reg follows_any (rs := []) (by rfl) ?_ ?_; first | exact trivial | exact ⟨trivial, trivial⟩ | exact ⟨trivial, trivial, trivial⟩ | exact ⟨trivial, trivial, trivial, trivial⟩ | fail) | fail))
    refine AK.loopI (fun i : Nat × (Nat → Nat) => (frOf [(1, .ptr 1 0), (3, .lst (.own 3 (i.2 3)) 7 (rowsLf (leavesM (v.m.take i.1)))), (4, .int .i64 i.1)], ⟨boxOf [(1, [.int .i64 (v).kind, .bool (v).b, .int .i64 (v).n, .str (v).s, .lst .any 6 (rowsV (v).l), .lst .any 7 (rowsM (v).m)], false)], i.2⟩)) (fun i => i.1 ≤ v.m.length) (fun i => v.m.length - i.1) (0, fun _ => 0) (by simp) (Weak.intro ⟨⟨_, rfl, .refl _⟩, ⟨_, rfl, .one (.own _ _ _ _)⟩, ⟨_, rfl, .refl _⟩, trivial⟩ ⟨⟨_, rfl, leL_refl _⟩, trivial⟩ rfl rfl) fun ⟨k, r⟩ hk => ?_
    dsimp only at hk
    (repeat (first | apply AK.seq | apply AK.block | apply AK.blk | apply AK.skip | (refine AK.reg follows_any (rs := []) (by rfl) ?_ ?_; first | exact trivial | exact ⟨trivial, trivial⟩ | exact ⟨trivial, trivial, trivial⟩ | exact ⟨trivial, trivial, trivial, trivial⟩ | fail) | fail))
    refine AK.cond (by rfl) (fun hb => ?_) (fun hb => ?_)
    · have hlt : k < v.m.length := by simpa [rowsM_len] using hb
      obtain ⟨⟨y, x⟩, hg⟩ : ∃ x, v.m[k]? = some x := ⟨_, List.getElem?_eq_getElem hlt⟩
      have hx := sizeM_take hg
      have hx2 := sizeM_take_le v.m (k + 1)
      have hxl := x.leaves_len
      have hkl := leavesM_take_le (m := v.m.take k)
      have hxd := x.depth_le_size'
      (repeat (first | apply AK.seq | apply AK.block | apply AK.blk | apply AK.skip | (refine AK.reg follows_any (rs := []) (by rfl) ?_ ?_; first | exact trivial | exact ⟨trivial, trivial⟩ | exact ⟨trivial, trivial, trivial⟩ | exact ⟨trivial, trivial, trivial, trivial⟩ | fail) | fail))
      refine AK.reg follows_any (rs := [.c (.str y :: [.int .i64 (x).kind, .bool (x).b, .int .i64 (x).n, .str (x).s, .lst .any 6 (rowsV (x).l), .lst .any 7 (rowsM (x).m)]), .v (.lst .any 7 (rowsLf x.leaves))]) (by rfl) ?_ ?_
      · ((repeat' apply And.intro) <;> first | trivial | omega | (simp only [List.length_nil, List.length_cons]; omega) | (intro hgd; first | (rw [hgd]; rfl) | (refine ⟨?_, by repeat (first | exact trivial | refine ⟨hgd, ?_⟩)⟩; (repeat' apply And.intro) <;> first | trivial | omega | (intro h2; rw [hgd, h2]; rfl) | skip)) | skip)
        · exact rowsM_at hg
        · exact ih x (by omega) (by omega)
      (repeat (first | apply AK.seq | apply AK.block | apply AK.blk | apply AK.skip | (refine AK.reg follows_any (rs := []) (by rfl) ?_ ?_; first | exact trivial | exact ⟨trivial, trivial⟩ | exact ⟨trivial, trivial, trivial⟩ | exact ⟨trivial, trivial, trivial, trivial⟩ | fail) | fail))
      refine AK.loopI (fun i : Nat × (Nat → Nat) => (frOf [(1, .ptr 1 0), (3, .lst (.own 3 (i.2 3)) 7 (rowsLf (leavesM (v.m.take k) ++ (x.leaves.take i.1).map fun q => (y :: q.1, q.2)))), (4, .int .i64 k), (5, .lst .any 7 (rowsLf x.leaves)), (6, .int .i64 i.1)], ⟨boxOf [(1, [.int .i64 (v).kind, .bool (v).b, .int .i64 (v).n, .str (v).s, .lst .any 6 (rowsV (v).l), .lst .any 7 (rowsM (v).m)], false)], i.2⟩)) (fun i => i.1 ≤ x.leaves.length) (fun i => x.leaves.length - i.1) (0, r) (by simp) (Weak.intro ⟨⟨_, rfl, .refl _⟩, ⟨_, rfl, .of_eq (by simp)⟩, ⟨_, rfl, .refl _⟩, ⟨_, rfl, .refl _⟩, ⟨_, rfl, .refl _⟩, trivial⟩ ⟨⟨_, rfl, leL_refl _⟩, trivial⟩ rfl rfl) fun ⟨j, r⟩ hj => ?_
      dsimp only at hj
      (repeat (first | apply AK.seq | apply AK.block | apply AK.blk | apply AK.skip | (refine AK.reg follows_any (rs := []) (by rfl) ?_ ?_; first | exact trivial | exact ⟨trivial, trivial⟩ | exact ⟨trivial, trivial, trivial⟩ | exact ⟨trivial, trivial, trivial, trivial⟩ | fail) | fail))
      refine AK.cond (by rfl) (fun hb => ?_) (fun hb => ?_)
      · have hlj : j < x.leaves.length := by simpa [rowsLf_len] using hb
        obtain ⟨⟨p, z⟩, hp⟩ : ∃ q, x.leaves[j]? = some q := ⟨_, List.getElem?_eq_getElem hlj⟩
        have hpl := V.leaf_len (List.mem_of_getElem? hp)
        dsimp only at hpl
        (repeat (first | apply AK.seq | apply AK.block | apply AK.blk | apply AK.skip | (refine AK.reg follows_any (rs := []) (by rfl) ?_ ?_; first | exact trivial | exact ⟨trivial, trivial⟩ | exact ⟨trivial, trivial, trivial⟩ | exact ⟨trivial, trivial, trivial, trivial⟩ | fail) | fail))
        refine AK.reg follows_any (rs := [.c (.str y :: [.int .i64 (x).kind, .bool (x).b, .int .i64 (x).n, .str (x).s, .lst .any 6 (rowsV (x).l), .lst .any 7 (rowsM (x).m)])]) (by rfl) ?_ ?_
        · ((repeat' apply And.intro) <;> first | trivial | omega | (simp only [List.length_nil, List.length_cons]; omega) | (intro hgd; first | (rw [hgd]; rfl) | (refine ⟨?_, by repeat (first | exact trivial | refine ⟨hgd, ?_⟩)⟩; (repeat' apply And.intro) <;> first | trivial | omega | (intro h2; rw [hgd, h2]; rfl) | skip)) | skip)
          · exact rowsM_at hg
        (repeat (first | apply AK.seq | apply AK.block | apply AK.blk | apply AK.skip | (refine AK.reg follows_any (rs := []) (by rfl) ?_ ?_; first | exact trivial | exact ⟨trivial, trivial⟩ | exact ⟨trivial, trivial, trivial⟩ | exact ⟨trivial, trivial, trivial, trivial⟩ | fail) | fail))
        refine AK.reg follows_any (rs := [.c (.lst .any 1 (rowsP p) :: [.int .i64 (z).kind, .bool (z).b, .int .i64 (z).n, .str (z).s, .lst .any 6 (rowsV (z).l), .lst .any 7 (rowsM (z).m)])]) (by rfl) ?_ ?_
        · ((repeat' apply And.intro) <;> first | trivial | omega | (simp only [List.length_nil, List.length_cons]; omega) | (intro hgd; first | (rw [hgd]; rfl) | (refine ⟨?_, by repeat (first | exact trivial | refine ⟨hgd, ?_⟩)⟩; (repeat' apply And.intro) <;> first | trivial | omega | (intro h2; rw [hgd, h2]; rfl) | skip)) | skip)
          · exact rowsLf_at hp
          all_goals simp only [rowsP_len, List.length_append, List.length_nil, List.length_cons]
          all_goals omega
        (repeat (first | apply AK.seq | apply AK.block | apply AK.blk | apply AK.skip | (refine AK.reg follows_any (rs := []) (by rfl) ?_ ?_; first | exact trivial | exact ⟨trivial, trivial⟩ | exact ⟨trivial, trivial, trivial⟩ | exact ⟨trivial, trivial, trivial, trivial⟩ | fail) | fail))
        refine AK.reg follows_any (rs := [.c (.lst .any 1 (rowsP p) :: [.int .i64 (z).kind, .bool (z).b, .int .i64 (z).n, .str (z).s, .lst .any 6 (rowsV (z).l), .lst .any 7 (rowsM (z).m)])]) (by rfl) ?_ ?_
        · ((repeat' apply And.intro) <;> first | trivial | omega | (simp only [List.length_nil, List.length_cons]; omega) | (intro hgd; first | (rw [hgd]; rfl) | (refine ⟨?_, by repeat (first | exact trivial | refine ⟨hgd, ?_⟩)⟩; (repeat' apply And.intro) <;> first | trivial | omega | (intro h2; rw [hgd, h2]; rfl) | skip)) | skip)
          · exact rowsLf_at hp
          all_goals simp only [rowsLf_len, List.length_append, List.length_nil, List.length_cons, List.length_map, List.length_take]
          all_goals omega
        (repeat (first | apply AK.seq | apply AK.block | apply AK.blk | apply AK.skip | (refine AK.reg follows_any (rs := []) (by rfl) ?_ ?_; first | exact trivial | exact ⟨trivial, trivial⟩ | exact ⟨trivial, trivial, trivial⟩ | exact ⟨trivial, trivial, trivial, trivial⟩ | fail) | fail))
        refine AK.lp ⟨(j + 1, _), by dsimp only; omega, Weak.intro ⟨⟨_, rfl, .refl _⟩, ⟨_, rfl, .of_eq (congrArg (AV.lst _ 7) ?_)⟩, ⟨_, rfl, .refl _⟩, ⟨_, rfl, .refl _⟩, ⟨_, rfl, .of_eq (congrArg _ (by first | omega | (rw [wrap_in (by omega) (by omega)]; omega)))⟩, trivial⟩ ⟨⟨_, rfl, leL_refl _⟩, trivial⟩ rfl rfl, by dsimp only; omega⟩
        rw [take_snoc hp]
        simp only [List.map_append, rowsLf_append, List.append_assoc]
        refine congrArg (rowsLf _ ++ ·) (congrArg (rowsLf _ ++ ·) ?_)
        simp only [rowsLf, rowsP, List.map_cons, List.map_nil, cellsV_eq]
        rfl
      · have hlt : j = x.leaves.length := by have : x.leaves.length ≤ j := by simpa [rowsLf_len] using hb
                                             omega
        subst hlt
        refine AK.exit rfl ?_
        (repeat (first | apply AK.seq | apply AK.block | apply AK.blk | apply AK.skip | (refine AK.reg follows_any (rs := []) (by rfl) ?_ ?_; first | exact trivial | exact ⟨trivial, trivial⟩ | exact ⟨trivial, trivial, trivial⟩ | exact ⟨trivial, trivial, trivial, trivial⟩ | fail) | fail))
        refine AK.lp ⟨(k + 1, _), by dsimp only; omega, Weak.intro ⟨⟨_, rfl, .refl _⟩, ⟨_, rfl, .of_eq (congrArg (AV.lst _ 7) ?_)⟩, ⟨_, rfl, .of_eq (congrArg _ (by first | omega | (rw [wrap_in (by omega) (by omega)]; omega)))⟩, trivial⟩ ⟨⟨_, rfl, leL_refl _⟩, trivial⟩ rfl rfl, by dsimp only; omega⟩
        rw [leavesM_take hg, List.take_length]
    · have hlt : k = v.m.length := by have : v.m.length ≤ k := by simpa [rowsM_len] using hb
                                      omega
      subst hlt
      refine AK.exit rfl ?_
      (repeat (first | apply AK.seq | apply AK.block | apply AK.blk | apply AK.skip | (refine AK.reg follows_any (rs := []) (by rfl) ?_ ?_; first | exact trivial | exact ⟨trivial, trivial⟩ | exact ⟨trivial, trivial, trivial⟩ | exact ⟨trivial, trivial, trivial, trivial⟩ | fail) | fail))
      refine AK.ret ⟨_, rfl, ?_⟩
      rw [hle, List.take_length]
      rfl
end Go.Proofs.Ytamecdecpmklmaa
