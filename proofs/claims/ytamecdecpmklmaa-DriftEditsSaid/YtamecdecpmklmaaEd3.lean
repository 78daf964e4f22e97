/-
  The law's function DriftEdits, walked: of any values it answers true.
-/
import Derived.Test.YtamecdecpmklmaaEdP
namespace Go.Proofs.Ytamecdecpmklmaa
set_option linter.unusedSimpArgs false
set_option linter.unusedVariables false
open Go.RowKit

theorem leaves_pos : ∀ (n : Nat) (v : V), v.size ≤ n → 0 < v.leaves.length := by
  intro n
  induction n with
  | zero => intro v h; have := v.size_pos; omega
  | succ n ih =>
    intro v h
    by_cases hm : v.m = []
    · rw [leaf_nil hm]; simp
    · have hve := v.size_eq
      rw [V.leaves_eq, if_neg (by simpa using hm)]
      cases hvm : v.m with
      | nil => exact absurd hvm hm
      | cons q m =>
        obtain ⟨k, u⟩ := q
        rw [hvm] at hve
        simp only [sizeM] at hve
        have := ih u (by omega)
        rw [leavesM, List.length_append, List.length_map]
        omega
theorem driftEdits_a (v x : V) (n : Nat) (key : ByteArray) (hn1 : n ≤ 255) (hkey : key.size ≤ 140737488355328) (s1 : v.sb) (s2 : x.sb) :
    AC Try.prog 4 [.agg [.int .i64 (v).kind, .bool (v).b, .int .i64 (v).n, .str (v).s, .lst .any 6 (rowsV (v).l), .lst .any 7 (rowsM (v).m)], .agg [.int .i64 (x).kind, .bool (x).b, .int .i64 (x).n, .str (x).s, .lst .any 6 (rowsV (x).l), .lst .any 7 (rowsM (x).m)], .int .u8 n, .str key] (.bool true) := by
  have haw := awake_a
  unfold AwakeOk at haw
  refine AC.enter Try.func4 a_law21_DriftEdits_ok a_law21_DriftEdits_cb (by rfl) fun E hE => ?_
  show AK _ _ _ [.c b_law21_DriftEdits] _ _
  rw [b_law21_DriftEdits]
  (repeat (first | apply AK.seq | apply AK.block | apply AK.blk | apply AK.skip | (refine AK.reg follows_any (rs := []) (by rfl) ?_ ?_; first | exact trivial | exact ⟨trivial, trivial⟩ | exact ⟨trivial, trivial, trivial⟩ | exact ⟨trivial, trivial, trivial, trivial⟩ | fail) | fail))
  refine AK.reg follows_any (rs := [.v (.bool (rightB [v, x])), .v (.bool (keyB key))]) (by rfl) ?_ ?_
  · ((repeat' apply And.intro) <;> first | trivial | omega | (simp only [List.length_nil, List.length_cons]; omega) | (intro hgd; first | (rw [hgd]; rfl) | (refine ⟨?_, by repeat (first | exact trivial | refine ⟨hgd, ?_⟩)⟩; (repeat' apply And.intro) <;> first | trivial | omega | (intro h2; rw [hgd, h2]; rfl) | skip)) | skip)
    · exact right2_a v x s1 s2
    · exact refKey_a key hkey
  refine AK.cond (by rfl) (fun hb => ?_) (fun hb => ?_)
  · (repeat (first | apply AK.seq | apply AK.block | apply AK.blk | apply AK.skip | (refine AK.reg follows_any (rs := []) (by rfl) ?_ ?_; first | exact trivial | exact ⟨trivial, trivial⟩ | exact ⟨trivial, trivial, trivial⟩ | exact ⟨trivial, trivial, trivial, trivial⟩ | fail) | fail))
    refine AK.reg follows_any (rs := [.v (.bool true)]) (by rfl) ?_ ?_
    · ((repeat' apply And.intro) <;> first | trivial | omega | (simp only [List.length_nil, List.length_cons]; omega) | (intro hgd; first | (rw [hgd]; rfl) | (refine ⟨?_, by repeat (first | exact trivial | refine ⟨hgd, ?_⟩)⟩; (repeat' apply And.intro) <;> first | trivial | omega | (intro h2; rw [hgd, h2]; rfl) | skip)) | skip)
    (repeat (first | apply AK.seq | apply AK.block | apply AK.blk | apply AK.skip | (refine AK.reg follows_any (rs := []) (by rfl) ?_ ?_; first | exact trivial | exact ⟨trivial, trivial⟩ | exact ⟨trivial, trivial, trivial⟩ | exact ⟨trivial, trivial, trivial, trivial⟩ | fail) | fail))
    refine AK.ret ⟨_, rfl, ?_⟩
    rfl
  simp only [Bool.or_eq_false_iff, Bool.not_eq_false', decide_eq_true_eq, decide_eq_false_iff_not] at hb
  obtain ⟨⟨⟨hR, hkv⟩, hlen⟩, hkb⟩ := hb
  have hr := rightB_fine hR
  obtain ⟨_, g1, z1, d1⟩ := hr v (by simp)
  obtain ⟨_, g2, z2, d2⟩ := hr x (by simp)
  have hm : v.m ≠ [] := fun e => hlen (by rw [e]; rfl)
  have hll := v.leaves_len
  have hpos := leaves_pos v.size v (Nat.le_refl _)
  (repeat (first | apply AK.seq | apply AK.block | apply AK.blk | apply AK.skip | (refine AK.reg follows_any (rs := []) (by rfl) ?_ ?_; first | exact trivial | exact ⟨trivial, trivial⟩ | exact ⟨trivial, trivial, trivial⟩ | exact ⟨trivial, trivial, trivial, trivial⟩ | fail) | fail))
  refine AK.reg follows_any (rs := [.v (.lst .any 7 (rowsLf v.leaves))]) (by rfl) ?_ ?_
  · ((repeat' apply And.intro) <;> first | trivial | omega | (simp only [List.length_nil, List.length_cons]; omega) | (intro hgd; first | (rw [hgd]; rfl) | (refine ⟨?_, by repeat (first | exact trivial | refine ⟨hgd, ?_⟩)⟩; (repeat' apply And.intro) <;> first | trivial | omega | (intro h2; rw [hgd, h2]; rfl) | skip)) | skip)
    · exact refLeaves_a v.size v (Nat.le_refl _) (by omega)
  obtain ⟨⟨p, z⟩, hg⟩ : ∃ q, v.leaves[n % v.leaves.length]? = some q := ⟨_, List.getElem?_eq_getElem (Nat.mod_lt _ hpos)⟩
  have hpz := List.mem_of_getElem? hg
  have hpl := V.leaf_len hpz
  simp only at hpl
  have hw : IntKind.i64.wrap (n : Int) = (n : Int) := wrap_in (by omega) (by omega)
  have htm : (IntKind.i64.wrap (n : Int)).tmod ((rowsLf v.leaves).length : Int) = ((n % v.leaves.length : Nat) : Int) := by rw [hw, rowsLf_len]; rfl
  (repeat (first | apply AK.seq | apply AK.block | apply AK.blk | apply AK.skip | (refine AK.reg follows_any (rs := []) (by rfl) ?_ ?_; first | exact trivial | exact ⟨trivial, trivial⟩ | exact ⟨trivial, trivial, trivial⟩ | exact ⟨trivial, trivial, trivial, trivial⟩ | fail) | fail))
  refine AK.reg follows_any (rs := [.c (.lst .any 1 (rowsP p) :: [.int .i64 (z).kind, .bool (z).b, .int .i64 (z).n, .str (z).s, .lst .any 6 (rowsV (z).l), .lst .any 7 (rowsM (z).m)])]) (by rfl) ?_ ?_
  · ((repeat' apply And.intro) <;> first | trivial | omega | (simp only [List.length_nil, List.length_cons]; omega) | (intro hgd; first | (rw [hgd]; rfl) | (refine ⟨?_, by repeat (first | exact trivial | refine ⟨hgd, ?_⟩)⟩; (repeat' apply And.intro) <;> first | trivial | omega | (intro h2; rw [hgd, h2]; rfl) | skip)) | skip)
    · rw [rowsLf_len]; omega
    · rw [htm]; exact rowsLf_at hg
  (repeat (first | apply AK.seq | apply AK.block | apply AK.blk | apply AK.skip | (refine AK.reg follows_any (rs := []) (by rfl) ?_ ?_; first | exact trivial | exact ⟨trivial, trivial⟩ | exact ⟨trivial, trivial, trivial⟩ | exact ⟨trivial, trivial, trivial, trivial⟩ | fail) | fail))
  refine AK.reg follows_any (rs := [.v (.bool (z.sameB x))]) (by rfl) ?_ ?_
  · ((repeat' apply And.intro) <;> first | trivial | omega | (simp only [List.length_nil, List.length_cons]; omega) | (intro hgd; first | (rw [hgd]; rfl) | (refine ⟨?_, by repeat (first | exact trivial | refine ⟨hgd, ?_⟩)⟩; (repeat' apply And.intro) <;> first | trivial | omega | (intro h2; rw [hgd, h2]; rfl) | skip)) | skip)
    · exact refSame_a z.size z x (Nat.le_refl _) (by omega)
  refine AK.cond (by rfl) (fun hb => ?_) (fun hb => ?_)
  · (repeat (first | apply AK.seq | apply AK.block | apply AK.blk | apply AK.skip | (refine AK.reg follows_any (rs := []) (by rfl) ?_ ?_; first | exact trivial | exact ⟨trivial, trivial⟩ | exact ⟨trivial, trivial, trivial⟩ | exact ⟨trivial, trivial, trivial, trivial⟩ | fail) | fail))
    refine AK.reg follows_any (rs := [.v (.bool true)]) (by rfl) ?_ ?_
    · ((repeat' apply And.intro) <;> first | trivial | omega | (simp only [List.length_nil, List.length_cons]; omega) | (intro hgd; first | (rw [hgd]; rfl) | (refine ⟨?_, by repeat (first | exact trivial | refine ⟨hgd, ?_⟩)⟩; (repeat' apply And.intro) <;> first | trivial | omega | (intro h2; rw [hgd, h2]; rfl) | skip)) | skip)
    (repeat (first | apply AK.seq | apply AK.block | apply AK.blk | apply AK.skip | (refine AK.reg follows_any (rs := []) (by rfl) ?_ ?_; first | exact trivial | exact ⟨trivial, trivial⟩ | exact ⟨trivial, trivial, trivial⟩ | exact ⟨trivial, trivial, trivial, trivial⟩ | fail) | fail))
    refine AK.ret ⟨_, rfl, ?_⟩
    rfl
  simp only [Bool.or_eq_false_iff, Bool.not_eq_false', decide_eq_true_eq, decide_eq_false_iff_not] at hb
  obtain ⟨⟨hsame, hkx⟩, hpn⟩ := hb
  have hne : z ≠ x := V.sameB_false.1 hsame
  have hp0 : p ≠ [] := fun e => hpn (by rw [e]; rfl)
  have hxm := good_nomap g2 hkx
  have hc1 := changes_put g1 g2 hxm hpz hne
  have hc1s := put_size x p v z g1 hpz
  have hc1g := put_good g2 p v z g1 hpz
  obtain ⟨rest, hc2⟩ := changes_drop g1 hpz hp0
  have hc2s := drop_size p v z g1 hpz hp0
  have hc2g := drop_good p v z g1 hpz hp0
  have hvd := v.depth_le_size'
  (repeat (first | apply AK.seq | apply AK.block | apply AK.blk | apply AK.skip | (refine AK.reg follows_any (rs := []) (by rfl) ?_ ?_; first | exact trivial | exact ⟨trivial, trivial⟩ | exact ⟨trivial, trivial, trivial⟩ | exact ⟨trivial, trivial, trivial, trivial⟩ | fail) | fail))
  refine AK.reg follows_any (rs := [.v (.agg [.int .i64 (V.put x p v).kind, .bool (V.put x p v).b, .int .i64 (V.put x p v).n, .str (V.put x p v).s, .lst .any 6 (rowsV (V.put x p v).l), .lst .any 7 (rowsM (V.put x p v).m)]), .v (.lst .any 5 (rowsDc ⟨#[]⟩ ⟨#[]⟩ ⟨#[]⟩ [(2, p)]))]) (by rfl) ?_ ?_
  · ((repeat' apply And.intro) <;> first | trivial | omega | (simp only [List.length_nil, List.length_cons]; omega) | (intro hgd; first | (rw [hgd]; rfl) | (refine ⟨?_, by repeat (first | exact trivial | refine ⟨hgd, ?_⟩)⟩; (repeat' apply And.intro) <;> first | trivial | omega | (intro h2; rw [hgd, h2]; rfl) | skip)) | skip)
    · exact refPuts_a x p v (by omega) (by omega)
    · have := driftCompare_a clone_ok ⟨#[]⟩ ⟨#[]⟩ ⟨#[]⟩ (V.put x p v) v hc1g g1 (by omega) (by omega)
      rw [hc1] at this
      exact this
  (repeat (first | apply AK.seq | apply AK.block | apply AK.blk | apply AK.skip | (refine AK.reg follows_any (rs := []) (by rfl) ?_ ?_; first | exact trivial | exact ⟨trivial, trivial⟩ | exact ⟨trivial, trivial, trivial⟩ | exact ⟨trivial, trivial, trivial, trivial⟩ | fail) | fail))
  refine AK.reg follows_any (rs := [.v (.agg [.int .i64 (V.drop p v).kind, .bool (V.drop p v).b, .int .i64 (V.drop p v).n, .str (V.drop p v).s, .lst .any 6 (rowsV (V.drop p v).l), .lst .any 7 (rowsM (V.drop p v).m)]), .v (.lst .any 5 (rowsDc ⟨#[]⟩ ⟨#[]⟩ ⟨#[]⟩ ((1, p) :: rest)))]) (by rfl) ?_ ?_
  · ((repeat' apply And.intro) <;> first | trivial | omega | (simp only [List.length_nil, List.length_cons]; omega) | (intro hgd; first | (rw [hgd]; rfl) | (refine ⟨?_, by repeat (first | exact trivial | refine ⟨hgd, ?_⟩)⟩; (repeat' apply And.intro) <;> first | trivial | omega | (intro h2; rw [hgd, h2]; rfl) | skip)) | skip)
    · exact refDrops_a p v (by omega) (by omega)
    · have := driftCompare_a clone_ok ⟨#[]⟩ ⟨#[]⟩ ⟨#[]⟩ (V.drop p v) v hc2g g1 (by omega) (by omega)
      rw [hc2] at this
      exact this
  (repeat (first | apply AK.seq | apply AK.block | apply AK.blk | apply AK.skip | (refine AK.reg follows_any (rs := []) (by rfl) ?_ ?_; first | exact trivial | exact ⟨trivial, trivial⟩ | exact ⟨trivial, trivial, trivial⟩ | exact ⟨trivial, trivial, trivial, trivial⟩ | fail) | fail))
  refine AK.reg follows_any (rs := [.c [.int .i64 2, .str ⟨#[]⟩, .str ⟨#[]⟩, .str ⟨#[]⟩, .lst .any 1 (rowsP p)], .c [.int .i64 1, .str ⟨#[]⟩, .str ⟨#[]⟩, .str ⟨#[]⟩, .lst .any 1 (rowsP p)], .c [.int .i64 2, .str ⟨#[]⟩, .str ⟨#[]⟩, .str ⟨#[]⟩, .lst .any 1 (rowsP p)], .v (.bool (begins p p))]) (by rfl) ?_ ?_
  · ((repeat' apply And.intro) <;> first | trivial | omega | (simp only [List.length_nil, List.length_cons]; omega) | (intro hgd; first | (rw [hgd]; rfl) | (refine ⟨?_, by repeat (first | exact trivial | refine ⟨hgd, ?_⟩)⟩; (repeat' apply And.intro) <;> first | trivial | omega | (intro h2; rw [hgd, h2]; rfl) | skip)) | skip)
    · exact refBegins_a p p (by omega) (by omega)
  refine AK.cond (by rfl) (fun hb => ?_) (fun hb => ?_)
  · simp [rowsDc, begins_self] at hb
    omega
  obtain ⟨u, f, hget, hu, hus, hf⟩ := get_any v key (by omega)
  (repeat (first | apply AK.seq | apply AK.block | apply AK.blk | apply AK.skip | (refine AK.reg follows_any (rs := []) (by rfl) ?_ ?_; first | exact trivial | exact ⟨trivial, trivial⟩ | exact ⟨trivial, trivial, trivial⟩ | exact ⟨trivial, trivial, trivial, trivial⟩ | fail) | fail))
  refine AK.reg follows_any (rs := [.v (.tup [.agg [.int .i64 (u).kind, .bool (u).b, .int .i64 (u).n, .str (u).s, .lst .any 6 (rowsV (u).l), .lst .any 7 (rowsM (u).m)], .bool f])]) (by rfl) ?_ ?_
  · ((repeat' apply And.intro) <;> first | trivial | omega | (simp only [List.length_nil, List.length_cons]; omega) | (intro hgd; first | (rw [hgd]; rfl) | (refine ⟨?_, by repeat (first | exact trivial | refine ⟨hgd, ?_⟩)⟩; (repeat' apply And.intro) <;> first | trivial | omega | (intro h2; rw [hgd, h2]; rfl) | skip)) | skip)
  (repeat (first | apply AK.seq | apply AK.block | apply AK.blk | apply AK.skip | (refine AK.reg follows_any (rs := []) (by rfl) ?_ ?_; first | exact trivial | exact ⟨trivial, trivial⟩ | exact ⟨trivial, trivial, trivial⟩ | exact ⟨trivial, trivial, trivial, trivial⟩ | fail) | fail))
  refine AK.cond (by rfl) (fun hb => ?_) (fun hb => ?_)
  · (repeat (first | apply AK.seq | apply AK.block | apply AK.blk | apply AK.skip | (refine AK.reg follows_any (rs := []) (by rfl) ?_ ?_; first | exact trivial | exact ⟨trivial, trivial⟩ | exact ⟨trivial, trivial, trivial⟩ | exact ⟨trivial, trivial, trivial, trivial⟩ | fail) | fail))
    refine AK.reg follows_any (rs := [.v (.bool true)]) (by rfl) ?_ ?_
    · ((repeat' apply And.intro) <;> first | trivial | omega | (simp only [List.length_nil, List.length_cons]; omega) | (intro hgd; first | (rw [hgd]; rfl) | (refine ⟨?_, by repeat (first | exact trivial | refine ⟨hgd, ?_⟩)⟩; (repeat' apply And.intro) <;> first | trivial | omega | (intro h2; rw [hgd, h2]; rfl) | skip)) | skip)
    (repeat (first | apply AK.seq | apply AK.block | apply AK.blk | apply AK.skip | (refine AK.reg follows_any (rs := []) (by rfl) ?_ ?_; first | exact trivial | exact ⟨trivial, trivial⟩ | exact ⟨trivial, trivial, trivial⟩ | exact ⟨trivial, trivial, trivial, trivial⟩ | fail) | fail))
    refine AK.ret ⟨_, rfl, ?_⟩
    rfl
  have hff : f = false := hb
  subst hff
  have hnone : mfind key v.m = none := by
    cases hq : mfind key v.m with
    | none => rfl
    | some i => rw [hq] at hf; cases hf
  have hc3 := changes_add g1 hm hxm hnone
  have hc3g := vMap_minsert_good (y := x) g1 g2 hkb
  have hc3s : (vMap (minsert key x v.m)).size ≤ 1000000 := by
    have h1 := (minsert_bound (key := key) (x := x) v.m).1
    have h2 := v.size_eq
    have : (vMap (minsert key x v.m)).size = 1 + sizeM (minsert key x v.m) := by rw [V.size_eq]; simp [vMap, V.l, V.m, sizeL]
    omega
  (repeat (first | apply AK.seq | apply AK.block | apply AK.blk | apply AK.skip | (refine AK.reg follows_any (rs := []) (by rfl) ?_ ?_; first | exact trivial | exact ⟨trivial, trivial⟩ | exact ⟨trivial, trivial, trivial⟩ | exact ⟨trivial, trivial, trivial, trivial⟩ | fail) | fail))
  refine AK.reg follows_any (rs := [.v (.agg [.int .i64 (vMap (minsert key x v.m)).kind, .bool (vMap (minsert key x v.m)).b, .int .i64 (vMap (minsert key x v.m)).n, .str (vMap (minsert key x v.m)).s, .lst .any 6 (rowsV (vMap (minsert key x v.m)).l), .lst .any 7 (rowsM (vMap (minsert key x v.m)).m)]), .v (.lst .any 5 (rowsDc ⟨#[]⟩ ⟨#[]⟩ ⟨#[]⟩ [(3, [key])]))]) (by rfl) ?_ ?_
  · ((repeat' apply And.intro) <;> first | trivial | omega | (simp only [List.length_nil, List.length_cons]; omega) | (intro hgd; first | (rw [hgd]; rfl) | (refine ⟨?_, by repeat (first | exact trivial | refine ⟨hgd, ?_⟩)⟩; (repeat' apply And.intro) <;> first | trivial | omega | (intro h2; rw [hgd, h2]; rfl) | skip)) | skip)
    · have := refPut_a v x key (by omega)
      rw [rput_eq (good_rises g1)] at this
      exact this
    · have := driftCompare_a clone_ok ⟨#[]⟩ ⟨#[]⟩ ⟨#[]⟩ (vMap (minsert key x v.m)) v hc3g g1 hc3s (by omega)
      rw [hc3] at this
      exact this
  (repeat (first | apply AK.seq | apply AK.block | apply AK.blk | apply AK.skip | (refine AK.reg follows_any (rs := []) (by rfl) ?_ ?_; first | exact trivial | exact ⟨trivial, trivial⟩ | exact ⟨trivial, trivial, trivial⟩ | exact ⟨trivial, trivial, trivial, trivial⟩ | fail) | fail))
  refine AK.reg follows_any (rs := [.v (.bool true), .c [.int .i64 3, .str ⟨#[]⟩, .str ⟨#[]⟩, .str ⟨#[]⟩, .lst .any 1 (rowsP [key])], .c [.int .i64 3, .str ⟨#[]⟩, .str ⟨#[]⟩, .str ⟨#[]⟩, .lst .any 1 (rowsP [key])], .c [.int .i64 3, .str ⟨#[]⟩, .str ⟨#[]⟩, .str ⟨#[]⟩, .lst .any 1 (rowsP [key])], .c [.str key]]) (by rfl) ?_ ?_
  · ((repeat' apply And.intro) <;> first | trivial | omega | (simp only [List.length_nil, List.length_cons]; omega) | (intro hgd; first | (rw [hgd]; rfl) | (refine ⟨?_, by repeat (first | exact trivial | refine ⟨hgd, ?_⟩)⟩; (repeat' apply And.intro) <;> first | trivial | omega | (intro h2; rw [hgd, h2]; rfl) | skip)) | skip)
  (repeat (first | apply AK.seq | apply AK.block | apply AK.blk | apply AK.skip | (refine AK.reg follows_any (rs := []) (by rfl) ?_ ?_; first | exact trivial | exact ⟨trivial, trivial⟩ | exact ⟨trivial, trivial, trivial⟩ | exact ⟨trivial, trivial, trivial, trivial⟩ | fail) | fail))
  refine AK.ret ⟨_, rfl, ?_⟩
  show AV.bool _ = AV.bool true
  simp [rowsDc, rowsP]
end Go.Proofs.Ytamecdecpmklmaa
