/-
  merge3.Merge without an old manifest, walked.
-/
import Derived.Test.YtamecdecpmklmaaMg1
namespace Go.Proofs.Ytamecdecpmklmaa
set_option linter.unusedSimpArgs false
set_option linter.unusedVariables false
open Go.RowKit

theorem lst_le' {st : St} {t : Tag} {esz : Nat} {l l' : List (List AV)} (h : l = l') : AVle1 st (.lst t esz l) (.lst t esz l') := h ▸ .refl _
theorem getAV_eq (o : Option V) : getAV o = .tup [.agg [.int .i64 (o.getD V.null).kind, .bool (o.getD V.null).b, .int .i64 (o.getD V.null).n, .str (o.getD V.null).s, .lst .any 6 (rowsV (o.getD V.null).l), .lst .any 7 (rowsM (o.getD V.null).m)], .bool o.isSome] := by cases o <;> rfl
theorem full_a (v : V) (hsz : v.size ≤ 1000000000000) : AC Try.prog 32 [.agg [.int .i64 (v).kind, .bool (v).b, .int .i64 (v).n, .str (v).s, .lst .any 6 (rowsV (v).l), .lst .any 7 (rowsM (v).m)]] (.bool (!v.m.isEmpty)) := by
  have hve := v.size_eq
  have hlm := len_le_sizeM v.m
  refine AC.enter Try.func32 a_merge3_full_ok a_merge3_full_cb (by rfl) fun E hE => ?_
  show AK _ _ _ [.c b_merge3_full] _ _
  rw [b_merge3_full]
  (repeat (first | apply AK.seq | apply AK.block | apply AK.blk | apply AK.skip | (refine AK.reg follows_any (rs := []) (by rfl) ?_ ?_; first | exact trivial | exact ⟨trivial, trivial⟩ | exact ⟨trivial, trivial, trivial⟩ | exact ⟨trivial, trivial, trivial, trivial⟩ | fail) | fail))
  refine AK.ret ⟨_, rfl, ?_⟩
  cases v.m with
  | nil => rfl
  | cons p m => exact congrArg AV.bool (decide_eq_true (show ((rowsM (p :: m)).length : Int) > 0 by rw [rowsM_len, List.length_cons]; omega))
theorem mfind_size' {key : ByteArray} {m : List (ByteArray × V)} : ((mfind key m).getD V.null).size ≤ 1 + sizeM m := by
  cases hf : mfind key m with
  | none => rw [Option.getD_none, null_size]; omega
  | some x => have := mem_sizeM (mem_of_mfind hf); simp only at this; rw [Option.getD_some]; omega
theorem merge_a (n : Nat) : ∀ v live : V, v.size ≤ n → v.good → live.good → v.size ≤ 1000000 → live.size ≤ 1000000 →
    AC Try.prog 19 [.agg [.int .i64 (V.null).kind, .bool (V.null).b, .int .i64 (V.null).n, .str (V.null).s, .lst .any 6 (rowsV (V.null).l), .lst .any 7 (rowsM (V.null).m)], .agg [.int .i64 (live).kind, .bool (live).b, .int .i64 (live).n, .str (live).s, .lst .any 6 (rowsV (live).l), .lst .any 7 (rowsM (live).m)], .agg [.int .i64 (v).kind, .bool (v).b, .int .i64 (v).n, .str (v).s, .lst .any 6 (rowsV (v).l), .lst .any 7 (rowsM (v).m)]] (.agg [.int .i64 (V.mrg v live).kind, .bool (V.mrg v live).b, .int .i64 (V.mrg v live).n, .str (V.mrg v live).s, .lst .any 6 (rowsV (V.mrg v live).l), .lst .any 7 (rowsM (V.mrg v live).m)]) := by
  induction n with
  | zero => intro v live h; have := v.size_pos; omega
  | succ n ih =>
    intro v live h hv hl s1 s2
    have hve := v.size_eq
    have hle := live.size_eq
    have hlm := len_le_sizeM v.m
    refine AC.enter Try.func19 a_merge3_Merge_ok a_merge3_Merge_cb (by rfl) fun E hE => ?_
    show AK _ _ _ [.c b_merge3_Merge] _ _
    rw [b_merge3_Merge]
    (repeat (first | apply AK.seq | apply AK.block | apply AK.blk | apply AK.skip | (refine AK.reg follows_any (rs := []) (by rfl) ?_ ?_; first | exact trivial | exact ⟨trivial, trivial⟩ | exact ⟨trivial, trivial, trivial⟩ | exact ⟨trivial, trivial, trivial, trivial⟩ | fail) | fail))
    refine AK.reg follows_any (rs := [.v (.bool (!v.m.isEmpty))]) (by rfl) ?_ ?_
    · ((repeat' apply And.intro) <;> first | trivial | omega | (simp only [List.length_nil, List.length_cons]; omega) | (intro hgd; first | (rw [hgd]; rfl) | (refine ⟨?_, by repeat (first | exact trivial | refine ⟨hgd, ?_⟩)⟩; (repeat' apply And.intro) <;> first | trivial | omega | (intro h2; rw [hgd, h2]; rfl) | skip)) | skip)
      · exact full_a v (by omega)
    refine AK.cond (by rfl) (fun hb => ?_) (fun hb => ?_)
    · have hm : v.m = [] := by simpa using hb
      rw [mrg_leaf hm]
      (repeat (first | apply AK.seq | apply AK.block | apply AK.blk | apply AK.skip | (refine AK.reg follows_any (rs := []) (by rfl) ?_ ?_; first | exact trivial | exact ⟨trivial, trivial⟩ | exact ⟨trivial, trivial, trivial⟩ | exact ⟨trivial, trivial, trivial, trivial⟩ | fail) | fail))
      refine AK.reg follows_any (rs := [.v (.agg [.int .i64 (v).kind, .bool (v).b, .int .i64 (v).n, .str (v).s, .lst .any 6 (rowsV (v).l), .lst .any 7 (rowsM (v).m)])]) (by rfl) ?_ ?_
      · ((repeat' apply And.intro) <;> first | trivial | omega | (simp only [List.length_nil, List.length_cons]; omega) | (intro hgd; first | (rw [hgd]; rfl) | (refine ⟨?_, by repeat (first | exact trivial | refine ⟨hgd, ?_⟩)⟩; (repeat' apply And.intro) <;> first | trivial | omega | (intro h2; rw [hgd, h2]; rfl) | skip)) | skip)
        · exact clone_ok v (by omega)
      (repeat (first | apply AK.seq | apply AK.block | apply AK.blk | apply AK.skip | (refine AK.reg follows_any (rs := []) (by rfl) ?_ ?_; first | exact trivial | exact ⟨trivial, trivial⟩ | exact ⟨trivial, trivial, trivial⟩ | exact ⟨trivial, trivial, trivial, trivial⟩ | fail) | fail))
      refine AK.ret ⟨_, rfl, ?_⟩
      rfl
    have hm : v.m ≠ [] := by simpa using hb
    have hT := treeMap_a live.m (by omega)
    rw [mapOf_rises (good_rises hl)] at hT
    (repeat (first | apply AK.seq | apply AK.block | apply AK.blk | apply AK.skip | (refine AK.reg follows_any (rs := []) (by rfl) ?_ ?_; first | exact trivial | exact ⟨trivial, trivial⟩ | exact ⟨trivial, trivial, trivial⟩ | exact ⟨trivial, trivial, trivial, trivial⟩ | fail) | fail))
    refine AK.reg follows_any (rs := [.v (.agg [.int .i64 5, .bool false, .int .i64 0, .str ⟨#[]⟩, .lst .any 6 [], .lst .any 7 (rowsM live.m)])]) (by rfl) ?_ ?_
    · ((repeat' apply And.intro) <;> first | trivial | omega | (simp only [List.length_nil, List.length_cons]; omega) | (intro hgd; first | (rw [hgd]; rfl) | (refine ⟨?_, by repeat (first | exact trivial | refine ⟨hgd, ?_⟩)⟩; (repeat' apply And.intro) <;> first | trivial | omega | (intro h2; rw [hgd, h2]; rfl) | skip)) | skip)
    (repeat (first | apply AK.seq | apply AK.block | apply AK.blk | apply AK.skip | (refine AK.reg follows_any (rs := []) (by rfl) ?_ ?_; first | exact trivial | exact ⟨trivial, trivial⟩ | exact ⟨trivial, trivial, trivial⟩ | exact ⟨trivial, trivial, trivial, trivial⟩ | fail) | fail))
    refine AK.loopI (fun k : Nat => (frOf [(3, .ptr 3 0), (4, .ptr 4 0), (5, .ptr 5 0), (6, .ptr 6 0), (7, .ptr 7 0), (28, .lst .any 7 (rowsM v.m)), (29, .int .i64 (rowsM v.m).length), (30, .int .i64 k)], ⟨boxOf [(3, [.int .i64 (V.null).kind, .bool (V.null).b, .int .i64 (V.null).n, .str (V.null).s, .lst .any 6 (rowsV (V.null).l), .lst .any 7 (rowsM (V.null).m)], false), (4, [.int .i64 (live).kind, .bool (live).b, .int .i64 (live).n, .str (live).s, .lst .any 6 (rowsV (live).l), .lst .any 7 (rowsM (live).m)], false), (5, [.int .i64 (v).kind, .bool (v).b, .int .i64 (v).n, .str (v).s, .lst .any 6 (rowsV (v).l), .lst .any 7 (rowsM (v).m)], false), (6, zeroAVs, false), (7, [.int .i64 5, .bool false, .int .i64 0, .str ⟨#[]⟩, .lst .any 6 [], .lst .any 7 (rowsM (mrgM (v.m.take k) live.m live.m))], false)], fun _ => 0⟩))
      (fun k => k ≤ v.m.length) (fun k => v.m.length - k) 0 (Nat.zero_le _) (Weak.intro ⟨⟨_, rfl, .refl _⟩, ⟨_, rfl, .refl _⟩, ⟨_, rfl, .refl _⟩, ⟨_, rfl, .refl _⟩, ⟨_, rfl, .refl _⟩, ⟨_, rfl, .refl _⟩, ⟨_, rfl, .refl _⟩, ⟨_, rfl, .refl _⟩, trivial⟩ ⟨⟨_, rfl, leL_refl _⟩, ⟨_, rfl, leL_refl _⟩, ⟨_, rfl, leL_refl _⟩, ⟨_, rfl, leL_refl _⟩, ⟨_, rfl, ⟨.refl _, .refl _, .refl _, .refl _, .refl _, lst_le' (by rw [List.take_zero, mrgM]), trivial⟩⟩, trivial⟩ rfl rfl) fun k hk => ?_
    have hms := mrgM_size hv hl k
    have hmr := mrgM_rises (lm := live.m) (m := v.m.take k) (good_rises hl)
    (repeat (first | apply AK.seq | apply AK.block | apply AK.blk | apply AK.skip | (refine AK.reg follows_any (rs := []) (by rfl) ?_ ?_; first | exact trivial | exact ⟨trivial, trivial⟩ | exact ⟨trivial, trivial, trivial⟩ | exact ⟨trivial, trivial, trivial, trivial⟩ | fail) | fail))
    refine AK.cond (by rfl) (fun hb => ?_) (fun hb => ?_)
    · have hlt : k < v.m.length := by simpa [rowsM_len] using hb
      obtain ⟨⟨y, x⟩, hg⟩ : ∃ x, v.m[k]? = some x := ⟨_, List.getElem?_eq_getElem hlt⟩
      have hxm := List.mem_of_getElem? hg
      have hx := mem_sizeM hxm
      simp only at hx
      have hst := mrgM_take (lm := live.m) (out := live.m) hg
      have hls := mfind_size' (key := y) (m := live.m)
      have hxs := mrg_size (good_m hv hxm) (mrg_live hl y)
      simp only at hxs
      (repeat (first | apply AK.seq | apply AK.block | apply AK.blk | apply AK.skip | (refine AK.reg follows_any (rs := []) (by rfl) ?_ ?_; first | exact trivial | exact ⟨trivial, trivial⟩ | exact ⟨trivial, trivial, trivial⟩ | exact ⟨trivial, trivial, trivial, trivial⟩ | fail) | fail))
      refine AK.reg follows_any (rs := [.c (.str y :: [.int .i64 (x).kind, .bool (x).b, .int .i64 (x).n, .str (x).s, .lst .any 6 (rowsV (x).l), .lst .any 7 (rowsM (x).m)])]) (by rfl) ?_ ?_
      · ((repeat' apply And.intro) <;> first | trivial | omega | (simp only [List.length_nil, List.length_cons]; omega) | (intro hgd; first | (rw [hgd]; rfl) | (refine ⟨?_, by repeat (first | exact trivial | refine ⟨hgd, ?_⟩)⟩; (repeat' apply And.intro) <;> first | trivial | omega | (intro h2; rw [hgd, h2]; rfl) | skip)) | skip)
        · exact rowsM_at hg
      (repeat (first | apply AK.seq | apply AK.block | apply AK.blk | apply AK.skip | (refine AK.reg follows_any (rs := []) (by rfl) ?_ ?_; first | exact trivial | exact ⟨trivial, trivial⟩ | exact ⟨trivial, trivial, trivial⟩ | exact ⟨trivial, trivial, trivial, trivial⟩ | fail) | fail))
      refine AK.reg follows_any (rs := [.v (.bool (!x.m.isEmpty))]) (by rfl) ?_ ?_
      · ((repeat' apply And.intro) <;> first | trivial | omega | (simp only [List.length_nil, List.length_cons]; omega) | (intro hgd; first | (rw [hgd]; rfl) | (refine ⟨?_, by repeat (first | exact trivial | refine ⟨hgd, ?_⟩)⟩; (repeat' apply And.intro) <;> first | trivial | omega | (intro h2; rw [hgd, h2]; rfl) | skip)) | skip)
        · exact full_a x (by omega)
      refine AK.cond (by rfl) (fun hb => ?_) (fun hb => ?_)
      · have hI := ih x ((mfind y live.m).getD V.null) (by omega) (good_m hv hxm) (mrg_live hl y) (by omega) (by omega)
        (repeat (first | apply AK.seq | apply AK.block | apply AK.blk | apply AK.skip | (refine AK.reg follows_any (rs := []) (by rfl) ?_ ?_; first | exact trivial | exact ⟨trivial, trivial⟩ | exact ⟨trivial, trivial, trivial⟩ | exact ⟨trivial, trivial, trivial, trivial⟩ | fail) | fail))
        refine AK.reg follows_any (rs := [.v (.tup [.agg [.int .i64 (V.null).kind, .bool (V.null).b, .int .i64 (V.null).n, .str (V.null).s, .lst .any 6 (rowsV (V.null).l), .lst .any 7 (rowsM (V.null).m)], .bool false])]) (by rfl) ?_ ?_
        · ((repeat' apply And.intro) <;> first | trivial | omega | (simp only [List.length_nil, List.length_cons]; omega) | (intro hgd; first | (rw [hgd]; rfl) | (refine ⟨?_, by repeat (first | exact trivial | refine ⟨hgd, ?_⟩)⟩; (repeat' apply And.intro) <;> first | trivial | omega | (intro h2; rw [hgd, h2]; rfl) | skip)) | skip)
          · exact treeGet_a clone_ok V.null y null_good (by rw [null_size]; omega)
        (repeat (first | apply AK.seq | apply AK.block | apply AK.blk | apply AK.skip | (refine AK.reg follows_any (rs := []) (by rfl) ?_ ?_; first | exact trivial | exact ⟨trivial, trivial⟩ | exact ⟨trivial, trivial, trivial⟩ | exact ⟨trivial, trivial, trivial, trivial⟩ | fail) | fail))
        refine AK.reg follows_any (rs := [.v (.tup [.agg [.int .i64 ((mfind y live.m).getD V.null).kind, .bool ((mfind y live.m).getD V.null).b, .int .i64 ((mfind y live.m).getD V.null).n, .str ((mfind y live.m).getD V.null).s, .lst .any 6 (rowsV ((mfind y live.m).getD V.null).l), .lst .any 7 (rowsM ((mfind y live.m).getD V.null).m)], .bool (mfind y live.m).isSome])]) (by rfl) ?_ ?_
        · ((repeat' apply And.intro) <;> first | trivial | omega | (simp only [List.length_nil, List.length_cons]; omega) | (intro hgd; first | (rw [hgd]; rfl) | (refine ⟨?_, by repeat (first | exact trivial | refine ⟨hgd, ?_⟩)⟩; (repeat' apply And.intro) <;> first | trivial | omega | (intro h2; rw [hgd, h2]; rfl) | skip)) | skip)
          · rw [← getAV_eq]; exact treeGet_a clone_ok live y hl (by omega)
        (repeat (first | apply AK.seq | apply AK.block | apply AK.blk | apply AK.skip | (refine AK.reg follows_any (rs := []) (by rfl) ?_ ?_; first | exact trivial | exact ⟨trivial, trivial⟩ | exact ⟨trivial, trivial, trivial⟩ | exact ⟨trivial, trivial, trivial, trivial⟩ | fail) | fail))
        refine AK.reg follows_any (rs := [.v (.agg [.int .i64 (V.mrg x ((mfind y live.m).getD V.null)).kind, .bool (V.mrg x ((mfind y live.m).getD V.null)).b, .int .i64 (V.mrg x ((mfind y live.m).getD V.null)).n, .str (V.mrg x ((mfind y live.m).getD V.null)).s, .lst .any 6 (rowsV (V.mrg x ((mfind y live.m).getD V.null)).l), .lst .any 7 (rowsM (V.mrg x ((mfind y live.m).getD V.null)).m)])]) (by rfl) ?_ ?_
        · ((repeat' apply And.intro) <;> first | trivial | omega | (simp only [List.length_nil, List.length_cons]; omega) | (intro hgd; first | (rw [hgd]; rfl) | (refine ⟨?_, by repeat (first | exact trivial | refine ⟨hgd, ?_⟩)⟩; (repeat' apply And.intro) <;> first | trivial | omega | (intro h2; rw [hgd, h2]; rfl) | skip)) | skip)
        have hP := treePut_a _ y (V.mrg x ((mfind y live.m).getD V.null)) hmr (by omega)
        rw [← hst] at hP
        (repeat (first | apply AK.seq | apply AK.block | apply AK.blk | apply AK.skip | (refine AK.reg follows_any (rs := []) (by rfl) ?_ ?_; first | exact trivial | exact ⟨trivial, trivial⟩ | exact ⟨trivial, trivial, trivial⟩ | exact ⟨trivial, trivial, trivial, trivial⟩ | fail) | fail))
        refine AK.reg follows_any (rs := [.v (.agg [.int .i64 5, .bool false, .int .i64 0, .str ⟨#[]⟩, .lst .any 6 [], .lst .any 7 (rowsM (mrgM (v.m.take (k + 1)) live.m live.m))])]) (by rfl) ?_ ?_
        · ((repeat' apply And.intro) <;> first | trivial | omega | (simp only [List.length_nil, List.length_cons]; omega) | (intro hgd; first | (rw [hgd]; rfl) | (refine ⟨?_, by repeat (first | exact trivial | refine ⟨hgd, ?_⟩)⟩; (repeat' apply And.intro) <;> first | trivial | omega | (intro h2; rw [hgd, h2]; rfl) | skip)) | skip)
        (repeat (first | apply AK.seq | apply AK.block | apply AK.blk | apply AK.skip | (refine AK.reg follows_any (rs := []) (by rfl) ?_ ?_; first | exact trivial | exact ⟨trivial, trivial⟩ | exact ⟨trivial, trivial, trivial⟩ | exact ⟨trivial, trivial, trivial, trivial⟩ | fail) | fail))
        exact AK.lp ⟨k + 1, by omega, Weak.intro ⟨⟨_, rfl, .refl _⟩, ⟨_, rfl, .refl _⟩, ⟨_, rfl, .refl _⟩, ⟨_, rfl, .refl _⟩, ⟨_, rfl, .refl _⟩, ⟨_, rfl, .refl _⟩, ⟨_, rfl, .refl _⟩, ⟨_, rfl, .of_eq (congrArg _ (by first | omega | (rw [wrap_in (by omega) (by omega)]; omega)))⟩, trivial⟩ ⟨⟨_, rfl, leL_refl _⟩, ⟨_, rfl, leL_refl _⟩, ⟨_, rfl, leL_refl _⟩, ⟨_, rfl, leL_refl _⟩, ⟨_, rfl, leL_refl _⟩, trivial⟩ rfl rfl, by omega⟩
      · have hxn : x.m = [] := by simpa using hb
        rw [mrg_leaf hxn] at hst
        have hP := treePut_a _ y x hmr (by omega)
        rw [← hst] at hP
        (repeat (first | apply AK.seq | apply AK.block | apply AK.blk | apply AK.skip | (refine AK.reg follows_any (rs := []) (by rfl) ?_ ?_; first | exact trivial | exact ⟨trivial, trivial⟩ | exact ⟨trivial, trivial, trivial⟩ | exact ⟨trivial, trivial, trivial, trivial⟩ | fail) | fail))
        refine AK.reg follows_any (rs := [.v (.agg [.int .i64 5, .bool false, .int .i64 0, .str ⟨#[]⟩, .lst .any 6 [], .lst .any 7 (rowsM (mrgM (v.m.take (k + 1)) live.m live.m))])]) (by rfl) ?_ ?_
        · ((repeat' apply And.intro) <;> first | trivial | omega | (simp only [List.length_nil, List.length_cons]; omega) | (intro hgd; first | (rw [hgd]; rfl) | (refine ⟨?_, by repeat (first | exact trivial | refine ⟨hgd, ?_⟩)⟩; (repeat' apply And.intro) <;> first | trivial | omega | (intro h2; rw [hgd, h2]; rfl) | skip)) | skip)
        (repeat (first | apply AK.seq | apply AK.block | apply AK.blk | apply AK.skip | (refine AK.reg follows_any (rs := []) (by rfl) ?_ ?_; first | exact trivial | exact ⟨trivial, trivial⟩ | exact ⟨trivial, trivial, trivial⟩ | exact ⟨trivial, trivial, trivial, trivial⟩ | fail) | fail))
        exact AK.lp ⟨k + 1, by omega, Weak.intro ⟨⟨_, rfl, .refl _⟩, ⟨_, rfl, .refl _⟩, ⟨_, rfl, .refl _⟩, ⟨_, rfl, .refl _⟩, ⟨_, rfl, .refl _⟩, ⟨_, rfl, .refl _⟩, ⟨_, rfl, .refl _⟩, ⟨_, rfl, .of_eq (congrArg _ (by first | omega | (rw [wrap_in (by omega) (by omega)]; omega)))⟩, trivial⟩ ⟨⟨_, rfl, leL_refl _⟩, ⟨_, rfl, leL_refl _⟩, ⟨_, rfl, leL_refl _⟩, ⟨_, rfl, leL_refl _⟩, ⟨_, rfl, leL_refl _⟩, trivial⟩ rfl rfl, by omega⟩
    have hkl : k = v.m.length := by have : v.m.length ≤ k := by simpa [rowsM_len] using hb
                                    omega
    rw [hkl, List.take_length]
    refine AK.exit rfl ?_
    (repeat (first | apply AK.seq | apply AK.block | apply AK.blk | apply AK.skip | (refine AK.reg follows_any (rs := []) (by rfl) ?_ ?_; first | exact trivial | exact ⟨trivial, trivial⟩ | exact ⟨trivial, trivial, trivial⟩ | exact ⟨trivial, trivial, trivial, trivial⟩ | fail) | fail))
    refine AK.loopI (fun _ : Unit => (frOf [(6, .ptr 6 0), (7, .ptr 7 0), (64, .int .i64 0), (65, .int .i64 0)], ⟨boxOf [(6, zeroAVs, false), (7, [.int .i64 5, .bool false, .int .i64 0, .str ⟨#[]⟩, .lst .any 6 [], .lst .any 7 (rowsM (mrgM v.m live.m live.m))], false)], fun _ => 0⟩))
      (fun _ => True) (fun _ => 0) () trivial (Weak.intro ⟨⟨_, rfl, .refl _⟩, ⟨_, rfl, .refl _⟩, ⟨_, rfl, .refl _⟩, ⟨_, rfl, .refl _⟩, trivial⟩ ⟨⟨_, rfl, leL_refl _⟩, ⟨_, rfl, leL_refl _⟩, trivial⟩ rfl rfl) fun _ _ => ?_
    (repeat (first | apply AK.seq | apply AK.block | apply AK.blk | apply AK.skip | (refine AK.reg follows_any (rs := []) (by rfl) ?_ ?_; first | exact trivial | exact ⟨trivial, trivial⟩ | exact ⟨trivial, trivial, trivial⟩ | exact ⟨trivial, trivial, trivial, trivial⟩ | fail) | fail))
    refine AK.cond (by rfl) (fun hb => ?_) (fun hb => ?_)
    · cases hb
    refine AK.exit rfl ?_
    (repeat (first | apply AK.seq | apply AK.block | apply AK.blk | apply AK.skip | (refine AK.reg follows_any (rs := []) (by rfl) ?_ ?_; first | exact trivial | exact ⟨trivial, trivial⟩ | exact ⟨trivial, trivial, trivial⟩ | exact ⟨trivial, trivial, trivial, trivial⟩ | fail) | fail))
    refine AK.ret ⟨_, rfl, ?_⟩
    rw [mrg_full hm]
    rfl
end Go.Proofs.Ytamecdecpmklmaa
