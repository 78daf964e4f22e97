/-
  The document's Drop of a map, Put and Drop at a path, walked.
-/
import Derived.Test.YtamecdecpmklmaaEd1
import Derived.Test.YtamecdecpmklmaaAwk
namespace Go.Proofs.Ytamecdecpmklmaa
set_option linter.unusedSimpArgs false
set_option linter.unusedVariables false
open Go.RowKit

def fdrop (key : ByteArray) (m : List (ByteArray × V)) : List (ByteArray × V) := m.filter fun p => !decide (p.1 = key)
theorem fdrop_take {key : ByteArray} {m : List (ByteArray × V)} {k : Nat} {p : ByteArray × V} (h : m[k]? = some p) : fdrop key (m.take (k + 1)) = fdrop key (m.take k) ++ (if p.1 = key then [] else [p]) := by
  rw [fdrop, take_snoc h, List.filter_append]
  by_cases hp : p.1 = key <;> simp [fdrop, hp]
theorem fdrop_len (key : ByteArray) (m : List (ByteArray × V)) : (fdrop key m).length ≤ m.length := List.length_filter_le _ _
theorem refDrop_a (v : V) (key : ByteArray) (hsz : v.size ≤ 1000000) : AC Try.prog 31 [.agg [.int .i64 (v).kind, .bool (v).b, .int .i64 (v).n, .str (v).s, .lst .any 6 (rowsV (v).l), .lst .any 7 (rowsM (v).m)], .str key] (.agg [.int .i64 v.kind, .bool v.b, .int .i64 v.n, .str v.s, .lst .any 6 (rowsV v.l), .lst .any 7 (rowsM (fdrop key v.m))]) := by
  have hve := v.size_eq
  have hlm := len_le_sizeM v.m
  refine AC.enter Try.func31 a_ref01_Drop_ok a_ref01_Drop_cb (by rfl) fun E hE => ?_
  show AK _ _ _ [.c b_ref01_Drop] _ _
  rw [b_ref01_Drop]
  (repeat (first | apply AK.seq | apply AK.block | apply AK.blk | apply AK.skip | (refine AK.reg follows_any (rs := []) (by rfl) ?_ ?_; first | exact trivial | exact ⟨trivial, trivial⟩ | exact ⟨trivial, trivial, trivial⟩ | exact ⟨trivial, trivial, trivial, trivial⟩ | fail) | fail))
  refine AK.loopI (fun i : Nat × (Nat → Nat) => (frOf [(1, .str key), (2, .ptr 2 0), (4, .ptr 4 0), (5, .ptr 5 0), (6, .int .i64 i.1)], ⟨boxOf [(2, [.int .i64 (v).kind, .bool (v).b, .int .i64 (v).n, .str (v).s, .lst .any 6 (rowsV (v).l), .lst .any 7 (rowsM (v).m)], false), (4, zeroAVs, false), (5, [.int .i64 v.kind, .bool v.b, .int .i64 v.n, .str v.s, .lst .any 6 (rowsV v.l), .lst (.own 32 (i.2 32)) 7 (rowsM (fdrop key (v.m.take i.1)))], false)], i.2⟩))
    (fun i => i.1 ≤ v.m.length) (fun i => v.m.length - i.1) (0, fun _ => 0) (by simp) (Weak.intro ⟨⟨_, rfl, .refl _⟩, ⟨_, rfl, .refl _⟩, ⟨_, rfl, .refl _⟩, ⟨_, rfl, .refl _⟩, ⟨_, rfl, .refl _⟩, trivial⟩ ⟨⟨_, rfl, leL_refl _⟩, ⟨_, rfl, leL_refl _⟩, ⟨_, rfl, ⟨.refl _, .refl _, .refl _, .refl _, .refl _, .own _ _ _ _, trivial⟩⟩, trivial⟩ rfl rfl) fun ⟨k, r⟩ hk => ?_
  dsimp only at hk
  have hpl := fdrop_len key (v.m.take k)
  rw [List.length_take] at hpl
  (repeat (first | apply AK.seq | apply AK.block | apply AK.blk | apply AK.skip | (refine AK.reg follows_any (rs := []) (by rfl) ?_ ?_; first | exact trivial | exact ⟨trivial, trivial⟩ | exact ⟨trivial, trivial, trivial⟩ | exact ⟨trivial, trivial, trivial, trivial⟩ | fail) | fail))
  refine AK.cond (by rfl) (fun hb => ?_) (fun hb => ?_)
  · have hlt : k < v.m.length := by simpa [rowsM_len] using hb
    obtain ⟨⟨y, z⟩, hg⟩ : ∃ x, v.m[k]? = some x := ⟨_, List.getElem?_eq_getElem hlt⟩
    have hst := fdrop_take (key := key) hg
    (repeat (first | apply AK.seq | apply AK.block | apply AK.blk | apply AK.skip | (refine AK.reg follows_any (rs := []) (by rfl) ?_ ?_; first | exact trivial | exact ⟨trivial, trivial⟩ | exact ⟨trivial, trivial, trivial⟩ | exact ⟨trivial, trivial, trivial, trivial⟩ | fail) | fail))
    refine AK.reg follows_any (rs := [.c (.str y :: [.int .i64 (z).kind, .bool (z).b, .int .i64 (z).n, .str (z).s, .lst .any 6 (rowsV (z).l), .lst .any 7 (rowsM (z).m)])]) (by rfl) ?_ ?_
    · ((repeat' apply And.intro) <;> first | trivial | omega | (simp only [List.length_nil, List.length_cons]; omega) | (intro hgd; first | (rw [hgd]; rfl) | (refine ⟨?_, by repeat (first | exact trivial | refine ⟨hgd, ?_⟩)⟩; (repeat' apply And.intro) <;> first | trivial | omega | (intro h2; rw [hgd, h2]; rfl) | skip)) | skip)
      · exact rowsM_at hg
    refine AK.cond (by rfl) (fun hb => ?_) (fun hb => ?_)
    · have h2 : ¬ y = key := by simpa using hb
      (repeat (first | apply AK.seq | apply AK.block | apply AK.blk | apply AK.skip | (refine AK.reg follows_any (rs := []) (by rfl) ?_ ?_; first | exact trivial | exact ⟨trivial, trivial⟩ | exact ⟨trivial, trivial, trivial⟩ | exact ⟨trivial, trivial, trivial, trivial⟩ | fail) | fail))
      refine AK.reg follows_any (rs := [.c (.str y :: [.int .i64 (z).kind, .bool (z).b, .int .i64 (z).n, .str (z).s, .lst .any 6 (rowsV (z).l), .lst .any 7 (rowsM (z).m)])]) (by rfl) ?_ ?_
      · ((repeat' apply And.intro) <;> first | trivial | omega | (simp only [List.length_nil, List.length_cons]; omega) | (intro hgd; first | (rw [hgd]; rfl) | (refine ⟨?_, by repeat (first | exact trivial | refine ⟨hgd, ?_⟩)⟩; (repeat' apply And.intro) <;> first | trivial | omega | (intro h2; rw [hgd, h2]; rfl) | skip)) | skip)
        · exact rowsM_at hg
        all_goals simp only [rowsM_len, List.length_append, List.length_nil, List.length_cons]
        all_goals omega
      (repeat (first | apply AK.seq | apply AK.block | apply AK.blk | apply AK.skip | (refine AK.reg follows_any (rs := []) (by rfl) ?_ ?_; first | exact trivial | exact ⟨trivial, trivial⟩ | exact ⟨trivial, trivial, trivial⟩ | exact ⟨trivial, trivial, trivial, trivial⟩ | fail) | fail))
      refine AK.lp ⟨(k + 1, _), by dsimp only; omega, Weak.intro ⟨⟨_, rfl, .refl _⟩, ⟨_, rfl, .refl _⟩, ⟨_, rfl, .refl _⟩, ⟨_, rfl, .refl _⟩, ⟨_, rfl, .of_eq (congrArg _ (by first | omega | (rw [wrap_in (by omega) (by omega)]; omega)))⟩, trivial⟩ ⟨⟨_, rfl, leL_refl _⟩, ⟨_, rfl, leL_refl _⟩, ⟨_, rfl, ⟨.refl _, .refl _, .refl _, .refl _, .refl _, lst_le ?_, trivial⟩⟩, trivial⟩ rfl rfl, by dsimp only; omega⟩
      rw [hst, if_neg h2, rowsM_append]; simp only [rowsM, cellsV_eq]; rfl
    · have h2 : y = key := by simpa using hb
      subst h2
      (repeat (first | apply AK.seq | apply AK.block | apply AK.blk | apply AK.skip | (refine AK.reg follows_any (rs := []) (by rfl) ?_ ?_; first | exact trivial | exact ⟨trivial, trivial⟩ | exact ⟨trivial, trivial, trivial⟩ | exact ⟨trivial, trivial, trivial, trivial⟩ | fail) | fail))
      refine AK.lp ⟨(k + 1, _), by dsimp only; omega, Weak.intro ⟨⟨_, rfl, .refl _⟩, ⟨_, rfl, .refl _⟩, ⟨_, rfl, .refl _⟩, ⟨_, rfl, .refl _⟩, ⟨_, rfl, .of_eq (congrArg _ (by first | omega | (rw [wrap_in (by omega) (by omega)]; omega)))⟩, trivial⟩ ⟨⟨_, rfl, leL_refl _⟩, ⟨_, rfl, leL_refl _⟩, ⟨_, rfl, ⟨.refl _, .refl _, .refl _, .refl _, .refl _, lst_le ?_, trivial⟩⟩, trivial⟩ rfl rfl, by dsimp only; omega⟩
      rw [hst, if_pos rfl, List.append_nil]
  · have hlt : k = v.m.length := by have : v.m.length ≤ k := by simpa [rowsM_len] using hb
                                    omega
    subst hlt
    refine AK.exit rfl ?_
    rw [List.take_length]
    (repeat (first | apply AK.seq | apply AK.block | apply AK.blk | apply AK.skip | (refine AK.reg follows_any (rs := []) (by rfl) ?_ ?_; first | exact trivial | exact ⟨trivial, trivial⟩ | exact ⟨trivial, trivial, trivial⟩ | exact ⟨trivial, trivial, trivial, trivial⟩ | fail) | fail))
    refine AK.ret ⟨_, rfl, ?_⟩
    rfl
def V.put (x : V) : Path → V → V
  | [], _ => x
  | s :: l, v => vMap (rput s (V.put x l ((mfind s v.m).getD V.null)) (if v.kind = 5 then v.m else []))
def V.drop : Path → V → V
  | [], _ => V.null
  | s :: l, v => match mfind s v.m with
    | none => v
    | some i => match l with
      | [] => .mk v.kind v.b v.n v.s v.l (fdrop s v.m)
      | t :: l => vMap (rput s (V.drop (t :: l) i) v.m)
theorem rowsP_tail (s : ByteArray) (l : Path) (n : Nat) (h : n = (rowsP (s :: l)).length) : ((rowsP (s :: l)).take n).drop 1 = rowsP l := by
  subst h
  rw [List.take_length]
  rfl
theorem get_any (v : V) (s : ByteArray) (hsz : v.size ≤ 1000000) : ∃ (u : V) (f : Bool), AC Try.prog 17 [.agg [.int .i64 (v).kind, .bool (v).b, .int .i64 (v).n, .str (v).s, .lst .any 6 (rowsV (v).l), .lst .any 7 (rowsM (v).m)], .str s] (.tup [.agg [.int .i64 (u).kind, .bool (u).b, .int .i64 (u).n, .str (u).s, .lst .any 6 (rowsV (u).l), .lst .any 7 (rowsM (u).m)], .bool f]) ∧ u = (mfind s v.m).getD V.null ∧ u.size ≤ 1000000 ∧ f = (mfind s v.m).isSome := by
  have h := refGet_a v s (by omega)
  cases hf : mfind s v.m with
  | none => rw [hf] at h; exact ⟨V.null, false, h, rfl, by simp [V.null, V.size, sizeL, sizeM], rfl⟩
  | some i =>
    rw [hf] at h
    have := mfind_size hf
    have := v.size_eq
    exact ⟨i, true, h, rfl, by omega, rfl⟩
theorem rowsP_at0 (s : ByteArray) (l : Path) : (rowsP (s :: l))[0]? = some [.str s] := rfl
theorem refPuts_a (x : V) : ∀ (p : Path) (v : V), v.size ≤ 1000000 → p.length ≤ 1000000 → AC Try.prog 14 [.agg [.int .i64 (v).kind, .bool (v).b, .int .i64 (v).n, .str (v).s, .lst .any 6 (rowsV (v).l), .lst .any 7 (rowsM (v).m)], .agg [.int .i64 (x).kind, .bool (x).b, .int .i64 (x).n, .str (x).s, .lst .any 6 (rowsV (x).l), .lst .any 7 (rowsM (x).m)], .lst .any 1 (rowsP p)] (.agg [.int .i64 (V.put x p v).kind, .bool (V.put x p v).b, .int .i64 (V.put x p v).n, .str (V.put x p v).s, .lst .any 6 (rowsV (V.put x p v).l), .lst .any 7 (rowsM (V.put x p v).m)]) := by
  intro p
  induction p with
  | nil =>
    intro v hsz hp
    refine AC.enter Try.func14 a_ref02_Put_ok a_ref02_Put_cb (by rfl) fun E hE => ?_
    show AK _ _ _ [.c b_ref02_Put] _ _
    rw [b_ref02_Put]
    (repeat (first | apply AK.seq | apply AK.block | apply AK.blk | apply AK.skip | (refine AK.reg follows_any (rs := []) (by rfl) ?_ ?_; first | exact trivial | exact ⟨trivial, trivial⟩ | exact ⟨trivial, trivial, trivial⟩ | exact ⟨trivial, trivial, trivial, trivial⟩ | fail) | fail))
    refine AK.cond (by rfl) (fun hb => ?_) (fun hb => ?_)
    · (repeat (first | apply AK.seq | apply AK.block | apply AK.blk | apply AK.skip | (refine AK.reg follows_any (rs := []) (by rfl) ?_ ?_; first | exact trivial | exact ⟨trivial, trivial⟩ | exact ⟨trivial, trivial, trivial⟩ | exact ⟨trivial, trivial, trivial, trivial⟩ | fail) | fail))
      refine AK.ret ⟨_, rfl, ?_⟩
      rfl
    · simp [rowsP] at hb <;> omega
  | cons s l ih =>
    intro v hsz hp
    obtain ⟨u, f, hget, hu, hus, _⟩ := get_any v s hsz
    have hpl : (rowsP (s :: l)).length = l.length + 1 := by simp [rowsP]
    have hl : l.length ≤ 1000000 := by simp at hp; omega
    refine AC.enter Try.func14 a_ref02_Put_ok a_ref02_Put_cb (by rfl) fun E hE => ?_
    show AK _ _ _ [.c b_ref02_Put] _ _
    rw [b_ref02_Put]
    (repeat (first | apply AK.seq | apply AK.block | apply AK.blk | apply AK.skip | (refine AK.reg follows_any (rs := []) (by rfl) ?_ ?_; first | exact trivial | exact ⟨trivial, trivial⟩ | exact ⟨trivial, trivial, trivial⟩ | exact ⟨trivial, trivial, trivial, trivial⟩ | fail) | fail))
    refine AK.cond (by rfl) (fun hb => ?_) (fun hb => ?_)
    · simp [rowsP] at hb <;> omega
    (repeat (first | apply AK.seq | apply AK.block | apply AK.blk | apply AK.skip | (refine AK.reg follows_any (rs := []) (by rfl) ?_ ?_; first | exact trivial | exact ⟨trivial, trivial⟩ | exact ⟨trivial, trivial, trivial⟩ | exact ⟨trivial, trivial, trivial, trivial⟩ | fail) | fail))
    refine AK.reg follows_any (rs := [.c [.str s], .v (.tup [.agg [.int .i64 (u).kind, .bool (u).b, .int .i64 (u).n, .str (u).s, .lst .any 6 (rowsV (u).l), .lst .any 7 (rowsM (u).m)], .bool f])]) (by rfl) ?_ ?_
    · ((repeat' apply And.intro) <;> first | trivial | omega | (simp only [List.length_nil, List.length_cons]; omega) | (intro hgd; first | (rw [hgd]; rfl) | (refine ⟨?_, by repeat (first | exact trivial | refine ⟨hgd, ?_⟩)⟩; (repeat' apply And.intro) <;> first | trivial | omega | (intro h2; rw [hgd, h2]; rfl) | skip)) | skip)
    (repeat (first | apply AK.seq | apply AK.block | apply AK.blk | apply AK.skip | (refine AK.reg follows_any (rs := []) (by rfl) ?_ ?_; first | exact trivial | exact ⟨trivial, trivial⟩ | exact ⟨trivial, trivial, trivial⟩ | exact ⟨trivial, trivial, trivial, trivial⟩ | fail) | fail))
    refine AK.cond (by rfl) (fun hb => ?_) (fun hb => ?_)
    · have hk : v.kind ≠ 5 := by simpa using hb
      (repeat (first | apply AK.seq | apply AK.block | apply AK.blk | apply AK.skip | (refine AK.reg follows_any (rs := []) (by rfl) ?_ ?_; first | exact trivial | exact ⟨trivial, trivial⟩ | exact ⟨trivial, trivial, trivial⟩ | exact ⟨trivial, trivial, trivial, trivial⟩ | fail) | fail))
      refine AK.reg follows_any (rs := [.c [.str s], .v (.agg [.int .i64 (V.put x l u).kind, .bool (V.put x l u).b, .int .i64 (V.put x l u).n, .str (V.put x l u).s, .lst .any 6 (rowsV (V.put x l u).l), .lst .any 7 (rowsM (V.put x l u).m)]), .v (.agg [.int .i64 (V.put x (s :: l) v).kind, .bool (V.put x (s :: l) v).b, .int .i64 (V.put x (s :: l) v).n, .str (V.put x (s :: l) v).s, .lst .any 6 (rowsV (V.put x (s :: l) v).l), .lst .any 7 (rowsM (V.put x (s :: l) v).m)])]) (by rfl) ?_ ?_
      · ((repeat' apply And.intro) <;> first | trivial | omega | (simp only [List.length_nil, List.length_cons]; omega) | (intro hgd; first | (rw [hgd]; rfl) | (refine ⟨?_, by repeat (first | exact trivial | refine ⟨hgd, ?_⟩)⟩; (repeat' apply And.intro) <;> first | trivial | omega | (intro h2; rw [hgd, h2]; rfl) | skip)) | skip)
        · rw [show List.drop (Int.toNat 1) (List.take ((rowsP (s :: l)).length : Int).toNat (rowsP (s :: l))) = rowsP l from rowsP_tail s l _ (by simp)]; exact ih u hus hl
        · have := refPut_a (vMap []) (V.put x l u) s (by simp [vMap, V.size, sizeL, sizeM])
          rw [V.put, if_neg hk, ← hu]
          exact this
      (repeat (first | apply AK.seq | apply AK.block | apply AK.blk | apply AK.skip | (refine AK.reg follows_any (rs := []) (by rfl) ?_ ?_; first | exact trivial | exact ⟨trivial, trivial⟩ | exact ⟨trivial, trivial, trivial⟩ | exact ⟨trivial, trivial, trivial, trivial⟩ | fail) | fail))
      refine AK.ret ⟨_, rfl, ?_⟩
      rfl
    · have hk : v.kind = 5 := by simpa using hb
      (repeat (first | apply AK.seq | apply AK.block | apply AK.blk | apply AK.skip | (refine AK.reg follows_any (rs := []) (by rfl) ?_ ?_; first | exact trivial | exact ⟨trivial, trivial⟩ | exact ⟨trivial, trivial, trivial⟩ | exact ⟨trivial, trivial, trivial, trivial⟩ | fail) | fail))
      refine AK.reg follows_any (rs := [.c [.str s], .v (.agg [.int .i64 (V.put x l u).kind, .bool (V.put x l u).b, .int .i64 (V.put x l u).n, .str (V.put x l u).s, .lst .any 6 (rowsV (V.put x l u).l), .lst .any 7 (rowsM (V.put x l u).m)]), .v (.agg [.int .i64 (V.put x (s :: l) v).kind, .bool (V.put x (s :: l) v).b, .int .i64 (V.put x (s :: l) v).n, .str (V.put x (s :: l) v).s, .lst .any 6 (rowsV (V.put x (s :: l) v).l), .lst .any 7 (rowsM (V.put x (s :: l) v).m)])]) (by rfl) ?_ ?_
      · ((repeat' apply And.intro) <;> first | trivial | omega | (simp only [List.length_nil, List.length_cons]; omega) | (intro hgd; first | (rw [hgd]; rfl) | (refine ⟨?_, by repeat (first | exact trivial | refine ⟨hgd, ?_⟩)⟩; (repeat' apply And.intro) <;> first | trivial | omega | (intro h2; rw [hgd, h2]; rfl) | skip)) | skip)
        · rw [show List.drop (Int.toNat 1) (List.take ((rowsP (s :: l)).length : Int).toNat (rowsP (s :: l))) = rowsP l from rowsP_tail s l _ (by simp)]; exact ih u hus hl
        · have := refPut_a v (V.put x l u) s hsz
          rw [V.put, if_pos hk, ← hu]
          exact this
      (repeat (first | apply AK.seq | apply AK.block | apply AK.blk | apply AK.skip | (refine AK.reg follows_any (rs := []) (by rfl) ?_ ?_; first | exact trivial | exact ⟨trivial, trivial⟩ | exact ⟨trivial, trivial, trivial⟩ | exact ⟨trivial, trivial, trivial, trivial⟩ | fail) | fail))
      refine AK.ret ⟨_, rfl, ?_⟩
      rfl
theorem refDrops_a : ∀ (p : Path) (v : V), v.size ≤ 1000000 → p.length ≤ 1000000 → AC Try.prog 15 [.agg [.int .i64 (v).kind, .bool (v).b, .int .i64 (v).n, .str (v).s, .lst .any 6 (rowsV (v).l), .lst .any 7 (rowsM (v).m)], .lst .any 1 (rowsP p)] (.agg [.int .i64 (V.drop p v).kind, .bool (V.drop p v).b, .int .i64 (V.drop p v).n, .str (V.drop p v).s, .lst .any 6 (rowsV (V.drop p v).l), .lst .any 7 (rowsM (V.drop p v).m)]) := by
  intro p
  induction p with
  | nil =>
    intro v hsz hp
    refine AC.enter Try.func15 a_ref02_Drop_ok a_ref02_Drop_cb (by rfl) fun E hE => ?_
    show AK _ _ _ [.c b_ref02_Drop] _ _
    rw [b_ref02_Drop]
    (repeat (first | apply AK.seq | apply AK.block | apply AK.blk | apply AK.skip | (refine AK.reg follows_any (rs := []) (by rfl) ?_ ?_; first | exact trivial | exact ⟨trivial, trivial⟩ | exact ⟨trivial, trivial, trivial⟩ | exact ⟨trivial, trivial, trivial, trivial⟩ | fail) | fail))
    refine AK.cond (by rfl) (fun hb => ?_) (fun hb => ?_)
    · (repeat (first | apply AK.seq | apply AK.block | apply AK.blk | apply AK.skip | (refine AK.reg follows_any (rs := []) (by rfl) ?_ ?_; first | exact trivial | exact ⟨trivial, trivial⟩ | exact ⟨trivial, trivial, trivial⟩ | exact ⟨trivial, trivial, trivial, trivial⟩ | fail) | fail))
      refine AK.ret ⟨_, rfl, ?_⟩
      rfl
    · simp [rowsP] at hb <;> omega
  | cons s l ih =>
    intro v hsz hp
    obtain ⟨u, f, hget, hu, hus, hf⟩ := get_any v s hsz
    have hpl : (rowsP (s :: l)).length = l.length + 1 := by simp [rowsP]
    have hl : l.length ≤ 1000000 := by simp at hp; omega
    refine AC.enter Try.func15 a_ref02_Drop_ok a_ref02_Drop_cb (by rfl) fun E hE => ?_
    show AK _ _ _ [.c b_ref02_Drop] _ _
    rw [b_ref02_Drop]
    (repeat (first | apply AK.seq | apply AK.block | apply AK.blk | apply AK.skip | (refine AK.reg follows_any (rs := []) (by rfl) ?_ ?_; first | exact trivial | exact ⟨trivial, trivial⟩ | exact ⟨trivial, trivial, trivial⟩ | exact ⟨trivial, trivial, trivial, trivial⟩ | fail) | fail))
    refine AK.cond (by rfl) (fun hb => ?_) (fun hb => ?_)
    · simp [rowsP] at hb <;> omega
    (repeat (first | apply AK.seq | apply AK.block | apply AK.blk | apply AK.skip | (refine AK.reg follows_any (rs := []) (by rfl) ?_ ?_; first | exact trivial | exact ⟨trivial, trivial⟩ | exact ⟨trivial, trivial, trivial⟩ | exact ⟨trivial, trivial, trivial, trivial⟩ | fail) | fail))
    refine AK.reg follows_any (rs := [.c [.str s], .v (.tup [.agg [.int .i64 (u).kind, .bool (u).b, .int .i64 (u).n, .str (u).s, .lst .any 6 (rowsV (u).l), .lst .any 7 (rowsM (u).m)], .bool f])]) (by rfl) ?_ ?_
    · ((repeat' apply And.intro) <;> first | trivial | omega | (simp only [List.length_nil, List.length_cons]; omega) | (intro hgd; first | (rw [hgd]; rfl) | (refine ⟨?_, by repeat (first | exact trivial | refine ⟨hgd, ?_⟩)⟩; (repeat' apply And.intro) <;> first | trivial | omega | (intro h2; rw [hgd, h2]; rfl) | skip)) | skip)
    (repeat (first | apply AK.seq | apply AK.block | apply AK.blk | apply AK.skip | (refine AK.reg follows_any (rs := []) (by rfl) ?_ ?_; first | exact trivial | exact ⟨trivial, trivial⟩ | exact ⟨trivial, trivial, trivial⟩ | exact ⟨trivial, trivial, trivial, trivial⟩ | fail) | fail))
    cases hm : mfind s v.m with
    | none =>
      rw [hm] at hf
      subst hf
      have hd : V.drop (s :: l) v = v := by rw [V.drop, hm]
      rw [hd]
      refine AK.cond (by rfl) (fun hb => ?_) (fun hb => ?_)
      · (repeat (first | apply AK.seq | apply AK.block | apply AK.blk | apply AK.skip | (refine AK.reg follows_any (rs := []) (by rfl) ?_ ?_; first | exact trivial | exact ⟨trivial, trivial⟩ | exact ⟨trivial, trivial, trivial⟩ | exact ⟨trivial, trivial, trivial, trivial⟩ | fail) | fail))
        refine AK.ret ⟨_, rfl, ?_⟩
        rfl
      · cases hb
    | some i =>
      rw [hm] at hf hu
      subst hf
      have hui : u = i := hu
      subst hui
      refine AK.cond (by rfl) (fun hb => ?_) (fun hb => ?_)
      · cases hb
      (repeat (first | apply AK.seq | apply AK.block | apply AK.blk | apply AK.skip | (refine AK.reg follows_any (rs := []) (by rfl) ?_ ?_; first | exact trivial | exact ⟨trivial, trivial⟩ | exact ⟨trivial, trivial, trivial⟩ | exact ⟨trivial, trivial, trivial, trivial⟩ | fail) | fail))
      cases l with
      | nil =>
        have hd : V.drop [s] v = .mk v.kind v.b v.n v.s v.l (fdrop s v.m) := by rw [V.drop, hm]
        rw [hd]
        refine AK.cond (by rfl) (fun hb => ?_) (fun hb => ?_)
        · (repeat (first | apply AK.seq | apply AK.block | apply AK.blk | apply AK.skip | (refine AK.reg follows_any (rs := []) (by rfl) ?_ ?_; first | exact trivial | exact ⟨trivial, trivial⟩ | exact ⟨trivial, trivial, trivial⟩ | exact ⟨trivial, trivial, trivial, trivial⟩ | fail) | fail))
          refine AK.reg follows_any (rs := [.c [.str s], .v (.agg [.int .i64 (V.mk v.kind v.b v.n v.s v.l (fdrop s v.m)).kind, .bool (V.mk v.kind v.b v.n v.s v.l (fdrop s v.m)).b, .int .i64 (V.mk v.kind v.b v.n v.s v.l (fdrop s v.m)).n, .str (V.mk v.kind v.b v.n v.s v.l (fdrop s v.m)).s, .lst .any 6 (rowsV (V.mk v.kind v.b v.n v.s v.l (fdrop s v.m)).l), .lst .any 7 (rowsM (V.mk v.kind v.b v.n v.s v.l (fdrop s v.m)).m)])]) (by rfl) ?_ ?_
          · ((repeat' apply And.intro) <;> first | trivial | omega | (simp only [List.length_nil, List.length_cons]; omega) | (intro hgd; first | (rw [hgd]; rfl) | (refine ⟨?_, by repeat (first | exact trivial | refine ⟨hgd, ?_⟩)⟩; (repeat' apply And.intro) <;> first | trivial | omega | (intro h2; rw [hgd, h2]; rfl) | skip)) | skip)
            · exact refDrop_a v s hsz
          (repeat (first | apply AK.seq | apply AK.block | apply AK.blk | apply AK.skip | (refine AK.reg follows_any (rs := []) (by rfl) ?_ ?_; first | exact trivial | exact ⟨trivial, trivial⟩ | exact ⟨trivial, trivial, trivial⟩ | exact ⟨trivial, trivial, trivial, trivial⟩ | fail) | fail))
          refine AK.ret ⟨_, rfl, ?_⟩
          rfl
        · simp [rowsP] at hb <;> omega
      | cons t l =>
        have hd : V.drop (s :: t :: l) v = vMap (rput s (V.drop (t :: l) u) v.m) := by rw [V.drop, hm]
        rw [hd]
        refine AK.cond (by rfl) (fun hb => ?_) (fun hb => ?_)
        · simp [rowsP] at hb <;> omega
        (repeat (first | apply AK.seq | apply AK.block | apply AK.blk | apply AK.skip | (refine AK.reg follows_any (rs := []) (by rfl) ?_ ?_; first | exact trivial | exact ⟨trivial, trivial⟩ | exact ⟨trivial, trivial, trivial⟩ | exact ⟨trivial, trivial, trivial, trivial⟩ | fail) | fail))
        refine AK.reg follows_any (rs := [.c [.str s], .v (.agg [.int .i64 (V.drop (t :: l) u).kind, .bool (V.drop (t :: l) u).b, .int .i64 (V.drop (t :: l) u).n, .str (V.drop (t :: l) u).s, .lst .any 6 (rowsV (V.drop (t :: l) u).l), .lst .any 7 (rowsM (V.drop (t :: l) u).m)]), .v (.agg [.int .i64 (vMap (rput s (V.drop (t :: l) u) v.m)).kind, .bool (vMap (rput s (V.drop (t :: l) u) v.m)).b, .int .i64 (vMap (rput s (V.drop (t :: l) u) v.m)).n, .str (vMap (rput s (V.drop (t :: l) u) v.m)).s, .lst .any 6 (rowsV (vMap (rput s (V.drop (t :: l) u) v.m)).l), .lst .any 7 (rowsM (vMap (rput s (V.drop (t :: l) u) v.m)).m)])]) (by rfl) ?_ ?_
        · ((repeat' apply And.intro) <;> first | trivial | omega | (simp only [List.length_nil, List.length_cons]; omega) | (intro hgd; first | (rw [hgd]; rfl) | (refine ⟨?_, by repeat (first | exact trivial | refine ⟨hgd, ?_⟩)⟩; (repeat' apply And.intro) <;> first | trivial | omega | (intro h2; rw [hgd, h2]; rfl) | skip)) | skip)
          · rw [show List.drop (Int.toNat 1) (List.take ((rowsP (s :: t :: l)).length : Int).toNat (rowsP (s :: t :: l))) = rowsP (t :: l) from rowsP_tail s (t :: l) _ (by simp)]; exact ih u hus hl
          · exact refPut_a v (V.drop (t :: l) u) s hsz
        (repeat (first | apply AK.seq | apply AK.block | apply AK.blk | apply AK.skip | (refine AK.reg follows_any (rs := []) (by rfl) ?_ ?_; first | exact trivial | exact ⟨trivial, trivial⟩ | exact ⟨trivial, trivial, trivial⟩ | exact ⟨trivial, trivial, trivial, trivial⟩ | fail) | fail))
        refine AK.ret ⟨_, rfl, ?_⟩
        rfl
end Go.Proofs.Ytamecdecpmklmaa
