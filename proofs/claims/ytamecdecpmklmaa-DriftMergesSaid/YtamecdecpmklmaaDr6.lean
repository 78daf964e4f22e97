/-
  The document's functions Get along a path, Begins and Compare, walked as instructions.
-/
import Derived.Test.YtamecdecpmklmaaDr5
namespace Go.Proofs.Ytamecdecpmklmaa
set_option linter.unusedSimpArgs false
set_option linter.unusedVariables false
open Go.RowKit

def nullAV : AV := .tup [.agg [.int .i64 0, .bool false, .int .i64 0, .str ⟨#[]⟩, .lst .any 6 [], .lst .any 7 []], .bool false]
theorem refGet_none {v : V} {key : ByteArray} (hsz : v.size ≤ 2000000000000) (h : mfind key v.m = none) : AC Try.prog 17 [.agg [.int .i64 (v).kind, .bool (v).b, .int .i64 (v).n, .str (v).s, .lst .any 6 (rowsV (v).l), .lst .any 7 (rowsM (v).m)], .str key] nullAV := by
  have := refGet_a v key hsz
  rw [h] at this
  exact this
theorem refGet_some {v : V} {key : ByteArray} (hsz : v.size ≤ 2000000000000) {x : V} (h : mfind key v.m = some x) : AC Try.prog 17 [.agg [.int .i64 (v).kind, .bool (v).b, .int .i64 (v).n, .str (v).s, .lst .any 6 (rowsV (v).l), .lst .any 7 (rowsM (v).m)], .str key] (.tup [.agg [.int .i64 (x).kind, .bool (x).b, .int .i64 (x).n, .str (x).s, .lst .any 6 (rowsV (x).l), .lst .any 7 (rowsM (x).m)], .bool true]) := by
  have := refGet_a v key hsz
  rw [h] at this
  exact this
theorem mfind_size {v x : V} {key : ByteArray} (h : mfind key v.m = some x) : x.size < v.size := V.mem_size (mem_of_mfind h)
theorem get_step {p : Path} {k : Nat} {s : ByteArray} {u : V} (h : p[k]? = some s) : V.get (p.drop k) u = (match mfind s u.m with | none => none | some x => V.get (p.drop (k + 1)) x) := by
  rw [drop_at h, V.get]
  cases mfind s u.m <;> rfl
theorem refGets_a (v : V) (p : Path) (hsz : v.size ≤ 2000000000000) (hp : p.length ≤ 2000000000000) : AC Try.prog 20 [.agg [.int .i64 (v).kind, .bool (v).b, .int .i64 (v).n, .str (v).s, .lst .any 6 (rowsV (v).l), .lst .any 7 (rowsM (v).m)], .lst .any 1 (rowsP p)] (getAV (v.get p)) := by
  refine AC.enter Try.func20 a_ref02_Get_ok a_ref02_Get_cb (by rfl) fun E hE => ?_
  show AK _ _ _ [.c b_ref02_Get] _ _
  rw [b_ref02_Get]
  (repeat (first | apply AK.seq | apply AK.block | apply AK.blk | apply AK.skip | (refine AK.reg follows_any (rs := []) (by rfl) ?_ ?_; first | exact trivial | exact ⟨trivial, trivial⟩ | exact ⟨trivial, trivial, trivial⟩ | exact ⟨trivial, trivial, trivial, trivial⟩ | fail) | fail))
  refine AK.loopI (fun i : Nat × V => (frOf [(1, .lst .any 1 (rowsP p)), (2, .ptr 2 0), (4, .ptr 4 0), (6, .int .i64 i.1)], ⟨boxOf [(2, [.int .i64 i.2.kind, .bool i.2.b, .int .i64 i.2.n, .str i.2.s, .lst .any 6 (rowsV i.2.l), .lst .any 7 (rowsM i.2.m)], false), (4, [.int .i64 0, .bool false, .int .i64 0, .str ⟨#[]⟩, .lst .nil 6 [], .lst .nil 7 []], false)], fun _ => 0⟩))
    (fun i => i.1 ≤ p.length ∧ i.2.size ≤ 2000000000000 ∧ V.get (p.drop i.1) i.2 = v.get p) (fun i => p.length - i.1) (0, v) ⟨by simp, hsz, rfl⟩ (Weak.intro ⟨⟨_, rfl, .refl _⟩, ⟨_, rfl, .refl _⟩, ⟨_, rfl, .refl _⟩, ⟨_, rfl, .refl _⟩, trivial⟩ ⟨⟨_, rfl, leL_refl _⟩, ⟨_, rfl, leL_refl _⟩, trivial⟩ rfl rfl) fun ⟨k, u⟩ ⟨hk, hu, hr⟩ => ?_
  dsimp only at hk hu hr
  (repeat (first | apply AK.seq | apply AK.block | apply AK.blk | apply AK.skip | (refine AK.reg follows_any (rs := []) (by rfl) ?_ ?_; first | exact trivial | exact ⟨trivial, trivial⟩ | exact ⟨trivial, trivial, trivial⟩ | exact ⟨trivial, trivial, trivial, trivial⟩ | fail) | fail))
  refine AK.cond (by rfl) (fun hb => ?_) (fun hb => ?_)
  · have hlt : k < p.length := by simpa [rowsP_len] using hb
    obtain ⟨s, hg⟩ : ∃ x, p[k]? = some x := ⟨_, List.getElem?_eq_getElem hlt⟩
    rw [get_step hg] at hr
    cases hf : mfind s u.m with
    | none =>
      rw [hf] at hr
      (repeat (first | apply AK.seq | apply AK.block | apply AK.blk | apply AK.skip | (refine AK.reg follows_any (rs := []) (by rfl) ?_ ?_; first | exact trivial | exact ⟨trivial, trivial⟩ | exact ⟨trivial, trivial, trivial⟩ | exact ⟨trivial, trivial, trivial, trivial⟩ | fail) | fail))
      refine AK.reg follows_any (rs := [.c [.str s], .v (.tup [.agg [.int .i64 0, .bool false, .int .i64 0, .str ⟨#[]⟩, .lst .any 6 [], .lst .any 7 []], .bool false])]) (by rfl) ?_ ?_
      · ((repeat' apply And.intro) <;> first | trivial | omega | (simp only [List.length_nil, List.length_cons]; omega) | (intro hgd; first | (rw [hgd]; rfl) | (refine ⟨?_, by repeat (first | exact trivial | refine ⟨hgd, ?_⟩)⟩; (repeat' apply And.intro) <;> first | trivial | omega | (intro h2; rw [hgd, h2]; rfl) | skip)) | skip)
        · exact rowsP_at hg
        · exact refGet_none hu hf
      (repeat (first | apply AK.seq | apply AK.block | apply AK.blk | apply AK.skip | (refine AK.reg follows_any (rs := []) (by rfl) ?_ ?_; first | exact trivial | exact ⟨trivial, trivial⟩ | exact ⟨trivial, trivial, trivial⟩ | exact ⟨trivial, trivial, trivial, trivial⟩ | fail) | fail))
      refine AK.cond (by rfl) (fun hb => ?_) (fun hb => ?_)
      · (repeat (first | apply AK.seq | apply AK.block | apply AK.blk | apply AK.skip | (refine AK.reg follows_any (rs := []) (by rfl) ?_ ?_; first | exact trivial | exact ⟨trivial, trivial⟩ | exact ⟨trivial, trivial, trivial⟩ | exact ⟨trivial, trivial, trivial, trivial⟩ | fail) | fail))
        refine AK.ret ⟨_, rfl, ?_⟩
        rw [← hr]
        rfl
      · cases hb
    | some x =>
      rw [hf] at hr
      (repeat (first | apply AK.seq | apply AK.block | apply AK.blk | apply AK.skip | (refine AK.reg follows_any (rs := []) (by rfl) ?_ ?_; first | exact trivial | exact ⟨trivial, trivial⟩ | exact ⟨trivial, trivial, trivial⟩ | exact ⟨trivial, trivial, trivial, trivial⟩ | fail) | fail))
      refine AK.reg follows_any (rs := [.c [.str s], .v (.tup [.agg [.int .i64 (x).kind, .bool (x).b, .int .i64 (x).n, .str (x).s, .lst .any 6 (rowsV (x).l), .lst .any 7 (rowsM (x).m)], .bool true])]) (by rfl) ?_ ?_
      · ((repeat' apply And.intro) <;> first | trivial | omega | (simp only [List.length_nil, List.length_cons]; omega) | (intro hgd; first | (rw [hgd]; rfl) | (refine ⟨?_, by repeat (first | exact trivial | refine ⟨hgd, ?_⟩)⟩; (repeat' apply And.intro) <;> first | trivial | omega | (intro h2; rw [hgd, h2]; rfl) | skip)) | skip)
        · exact rowsP_at hg
        · exact refGet_some hu hf
      (repeat (first | apply AK.seq | apply AK.block | apply AK.blk | apply AK.skip | (refine AK.reg follows_any (rs := []) (by rfl) ?_ ?_; first | exact trivial | exact ⟨trivial, trivial⟩ | exact ⟨trivial, trivial, trivial⟩ | exact ⟨trivial, trivial, trivial, trivial⟩ | fail) | fail))
      refine AK.cond (by rfl) (fun hb => ?_) (fun hb => ?_)
      · cases hb
      · (repeat (first | apply AK.seq | apply AK.block | apply AK.blk | apply AK.skip | (refine AK.reg follows_any (rs := []) (by rfl) ?_ ?_; first | exact trivial | exact ⟨trivial, trivial⟩ | exact ⟨trivial, trivial, trivial⟩ | exact ⟨trivial, trivial, trivial, trivial⟩ | fail) | fail))
        have hx := mfind_size hf
        exact AK.lp ⟨(k + 1, x), ⟨by dsimp only; omega, by dsimp only; omega, hr⟩, Weak.intro ⟨⟨_, rfl, .refl _⟩, ⟨_, rfl, .refl _⟩, ⟨_, rfl, .refl _⟩, ⟨_, rfl, .of_eq (congrArg _ (by first | omega | (rw [wrap_in (by omega) (by omega)]; omega)))⟩, trivial⟩ ⟨⟨_, rfl, leL_refl _⟩, ⟨_, rfl, leL_refl _⟩, trivial⟩ rfl rfl, by dsimp only; omega⟩
  · have hlt : k = p.length := by have : p.length ≤ k := by simpa [rowsP_len] using hb
                                  omega
    subst hlt
    rw [List.drop_length, V.get] at hr
    refine AK.exit rfl ?_
    (repeat (first | apply AK.seq | apply AK.block | apply AK.blk | apply AK.skip | (refine AK.reg follows_any (rs := []) (by rfl) ?_ ?_; first | exact trivial | exact ⟨trivial, trivial⟩ | exact ⟨trivial, trivial, trivial⟩ | exact ⟨trivial, trivial, trivial, trivial⟩ | fail) | fail))
    refine AK.ret ⟨_, rfl, ?_⟩
    rw [← hr]
    rfl

theorem begins_more {l w : Path} {k : Nat} {s t : ByteArray} (hw : w[k]? = some t) (hl : k < l.length → l[k]? = some s) :
    begins (l.drop k) (w.drop k) = (!(decide ((k : Int) ≥ l.length) || !decide (s = t)) && begins (l.drop (k + 1)) (w.drop (k + 1))) := by
  rw [drop_at hw]
  by_cases h : k < l.length
  · have e : decide ((k : Int) ≥ l.length) = false := decide_eq_false (by omega)
    rw [drop_at (hl h), begins, e]
    simp
  · have e : decide ((k : Int) ≥ l.length) = true := decide_eq_true (by omega)
    rw [List.drop_eq_nil_of_le (show l.length ≤ k by omega), begins, e]
    simp
theorem refBegins_a (l w : Path) (hl : l.length ≤ 2000000000000) (hw : w.length ≤ 2000000000000) : AC Try.prog 16 [.lst .any 1 (rowsP l), .lst .any 1 (rowsP w)] (.bool (begins l w)) := by
  refine AC.enter Try.func16 a_ref02_Begins_ok a_ref02_Begins_cb (by rfl) fun E hE => ?_
  show AK _ _ _ [.c b_ref02_Begins] _ _
  rw [b_ref02_Begins]
  (repeat (first | apply AK.seq | apply AK.block | apply AK.blk | apply AK.skip | (refine AK.reg follows_any (rs := []) (by rfl) ?_ ?_; first | exact trivial | exact ⟨trivial, trivial⟩ | exact ⟨trivial, trivial, trivial⟩ | exact ⟨trivial, trivial, trivial, trivial⟩ | fail) | fail))
  refine AK.loopI (fun k : Nat => (frOf [(0, .lst .any 1 (rowsP l)), (1, .lst .any 1 (rowsP w)), (5, .int .i64 k)], ⟨boxOf [], fun _ => 0⟩)) (fun k => k ≤ w.length ∧ begins (l.drop k) (w.drop k) = begins l w) (fun k => w.length - k) 0 ⟨by simp, rfl⟩ (Weak.intro ⟨⟨_, rfl, .refl _⟩, ⟨_, rfl, .refl _⟩, ⟨_, rfl, .refl _⟩, trivial⟩ trivial rfl rfl) fun k ⟨hk, hr⟩ => ?_
  (repeat (first | apply AK.seq | apply AK.block | apply AK.blk | apply AK.skip | (refine AK.reg follows_any (rs := []) (by rfl) ?_ ?_; first | exact trivial | exact ⟨trivial, trivial⟩ | exact ⟨trivial, trivial, trivial⟩ | exact ⟨trivial, trivial, trivial, trivial⟩ | fail) | fail))
  refine AK.cond (by rfl) (fun hb => ?_) (fun hb => ?_)
  · have hlt : k < w.length := by simpa [rowsP_len] using hb
    obtain ⟨t, hg⟩ : ∃ x, w[k]? = some x := ⟨_, List.getElem?_eq_getElem hlt⟩
    obtain ⟨s, hs⟩ : ∃ x, k < l.length → l[k]? = some x := ⟨l.getD k default, fun h => by simp [List.getD, List.getElem?_eq_getElem h]⟩
    have hm := begins_more hg hs
    rw [hm] at hr
    (repeat (first | apply AK.seq | apply AK.block | apply AK.blk | apply AK.skip | (refine AK.reg follows_any (rs := []) (by rfl) ?_ ?_; first | exact trivial | exact ⟨trivial, trivial⟩ | exact ⟨trivial, trivial, trivial⟩ | exact ⟨trivial, trivial, trivial, trivial⟩ | fail) | fail))
    refine AK.reg follows_any (rs := [.c [.str s], .c [.str t]]) (by rfl) ?_ ?_
    · ((repeat' apply And.intro) <;> first | trivial | omega | (simp only [List.length_nil, List.length_cons]; omega) | (intro hgd; first | (rw [hgd]; rfl) | (refine ⟨?_, by repeat (first | exact trivial | refine ⟨hgd, ?_⟩)⟩; (repeat' apply And.intro) <;> first | trivial | omega | (intro h2; rw [hgd, h2]; rfl) | skip)) | skip)
      · exact rowsP_at (hs (by simpa [gd, rowsP_len] using hgd))
      · exact rowsP_at hg
    refine AK.cond (by rfl) (fun hb => ?_) (fun hb => ?_)
    · rw [rowsP_len] at hb
      rw [hb] at hr
      (repeat (first | apply AK.seq | apply AK.block | apply AK.blk | apply AK.skip | (refine AK.reg follows_any (rs := []) (by rfl) ?_ ?_; first | exact trivial | exact ⟨trivial, trivial⟩ | exact ⟨trivial, trivial, trivial⟩ | exact ⟨trivial, trivial, trivial, trivial⟩ | fail) | fail))
      refine AK.ret ⟨_, rfl, ?_⟩
      exact congrArg AV.bool (by rw [← hr]; rfl)
    · rw [rowsP_len] at hb
      rw [hb] at hr
      (repeat (first | apply AK.seq | apply AK.block | apply AK.blk | apply AK.skip | (refine AK.reg follows_any (rs := []) (by rfl) ?_ ?_; first | exact trivial | exact ⟨trivial, trivial⟩ | exact ⟨trivial, trivial, trivial⟩ | exact ⟨trivial, trivial, trivial, trivial⟩ | fail) | fail))
      exact AK.lp ⟨k + 1, ⟨by omega, by simpa using hr⟩, Weak.intro ⟨⟨_, rfl, .refl _⟩, ⟨_, rfl, .refl _⟩, ⟨_, rfl, .of_eq (congrArg _ (by first | omega | (rw [wrap_in (by omega) (by omega)]; omega)))⟩, trivial⟩ trivial rfl rfl, by omega⟩
  · have hlt : k = w.length := by have : w.length ≤ k := by simpa [rowsP_len] using hb
                                  omega
    subst hlt
    rw [List.drop_length] at hr
    refine AK.exit rfl ?_
    (repeat (first | apply AK.seq | apply AK.block | apply AK.blk | apply AK.skip | (refine AK.reg follows_any (rs := []) (by rfl) ?_ ?_; first | exact trivial | exact ⟨trivial, trivial⟩ | exact ⟨trivial, trivial, trivial⟩ | exact ⟨trivial, trivial, trivial, trivial⟩ | fail) | fail))
    refine AK.ret ⟨_, rfl, ?_⟩
    exact congrArg AV.bool (by rw [← hr]; cases l.drop w.length <;> rfl)

def rowsCh (l : List (Int × Path)) : List (List AV) := l.map fun q => [.int .i64 q.1, .lst .any 1 (rowsP q.2)]
theorem rowsCh_append (a b : List (Int × Path)) : rowsCh (a ++ b) = rowsCh a ++ rowsCh b := List.map_append
theorem rowsCh_len (l : List (Int × Path)) : (rowsCh l).length = l.length := List.length_map _
theorem chgA_len (live : V) (l : List (Path × V)) : (chgA live l).length ≤ l.length := List.length_filterMap_le _ _
theorem chgB_len (ws l : List (Path × V)) : (chgB ws l).length ≤ l.length := List.length_filterMap_le _ _
theorem owned_take {ws : List (Path × V)} {k : Nat} {p s : Path} {x : V} (h : ws[k]? = some (p, x)) : owned (ws.take (k + 1)) s = ((owned (ws.take k) s || begins s p) || begins p s) := by
  rw [take_snoc h, owned, List.any_append]; simp [owned, Bool.or_assoc]

theorem refGets_none {v : V} {p : Path} (hsz : v.size ≤ 2000000000000) (hp : p.length ≤ 2000000000000) (h : v.get p = none) : AC Try.prog 20 [.agg [.int .i64 (v).kind, .bool (v).b, .int .i64 (v).n, .str (v).s, .lst .any 6 (rowsV (v).l), .lst .any 7 (rowsM (v).m)], .lst .any 1 (rowsP p)] nullAV := by
  have := refGets_a v p hsz hp
  rw [h] at this
  exact this
theorem refGets_some {v : V} {p : Path} (hsz : v.size ≤ 2000000000000) (hp : p.length ≤ 2000000000000) {x : V} (h : v.get p = some x) : AC Try.prog 20 [.agg [.int .i64 (v).kind, .bool (v).b, .int .i64 (v).n, .str (v).s, .lst .any 6 (rowsV (v).l), .lst .any 7 (rowsM (v).m)], .lst .any 1 (rowsP p)] (.tup [.agg [.int .i64 (x).kind, .bool (x).b, .int .i64 (x).n, .str (x).s, .lst .any 6 (rowsV (x).l), .lst .any 7 (rowsM (x).m)], .bool true]) := by
  have := refGets_a v p hsz hp
  rw [h] at this
  exact this
theorem get_size : ∀ {p : Path} {v x : V}, v.get p = some x → x.size ≤ v.size
  | [], v, x, h => by cases h; exact Nat.le_refl _
  | s :: p, v, x, h => by
    rw [V.get] at h
    split at h
    · cases h
    · rename_i y hy
      have := mfind_size hy
      have := get_size h
      omega

set_option maxRecDepth 4000 in
theorem refCompare_a (live want : V) (h1 : live.size ≤ 1000000) (h2 : want.size ≤ 1000000) : AC Try.prog 10 [.agg [.int .i64 (live).kind, .bool (live).b, .int .i64 (live).n, .str (live).s, .lst .any 6 (rowsV (live).l), .lst .any 7 (rowsM (live).m)], .agg [.int .i64 (want).kind, .bool (want).b, .int .i64 (want).n, .str (want).s, .lst .any 6 (rowsV (want).l), .lst .any 7 (rowsM (want).m)]] (.lst .any 2 (rowsCh (changes live want))) := by
  have hwl := want.leaves_len
  have hll := live.leaves_len
  have hwd := want.depth_le_size'
  have hld := live.depth_le_size'
  refine AC.enter Try.func10 a_ref21_Compare_ok a_ref21_Compare_cb (by rfl) fun E hE => ?_
  show AK _ _ _ [.c b_ref21_Compare] _ _
  rw [b_ref21_Compare]
  (repeat (first | apply AK.seq | apply AK.block | apply AK.blk | apply AK.skip | (refine AK.reg follows_any (rs := []) (by rfl) ?_ ?_; first | exact trivial | exact ⟨trivial, trivial⟩ | exact ⟨trivial, trivial, trivial⟩ | exact ⟨trivial, trivial, trivial, trivial⟩ | fail) | fail))
  refine AK.reg follows_any (rs := [.v (.lst .any 7 (rowsLf want.leaves))]) (by rfl) ?_ ?_
  · ((repeat' apply And.intro) <;> first | trivial | omega | (simp only [List.length_nil, List.length_cons]; omega) | (intro hgd; first | (rw [hgd]; rfl) | (refine ⟨?_, by repeat (first | exact trivial | refine ⟨hgd, ?_⟩)⟩; (repeat' apply And.intro) <;> first | trivial | omega | (intro h2; rw [hgd, h2]; rfl) | skip)) | skip)
    · exact refLeaves_a _ want (Nat.le_refl _) h2
  (repeat (first | apply AK.seq | apply AK.block | apply AK.blk | apply AK.skip | (refine AK.reg follows_any (rs := []) (by rfl) ?_ ?_; first | exact trivial | exact ⟨trivial, trivial⟩ | exact ⟨trivial, trivial, trivial⟩ | exact ⟨trivial, trivial, trivial, trivial⟩ | fail) | fail))
  refine AK.loopI (fun i : Nat × (Nat → Nat) => (frOf [(2, .ptr 2 0), (5, .lst (.own 5 (i.2 5)) 2 (rowsCh (chgA live (want.leaves.take i.1)))), (6, .lst .any 7 (rowsLf want.leaves)), (7, .int .i64 i.1)], ⟨boxOf [(2, [.int .i64 (live).kind, .bool (live).b, .int .i64 (live).n, .str (live).s, .lst .any 6 (rowsV (live).l), .lst .any 7 (rowsM (live).m)], false)], i.2⟩))
    (fun i => i.1 ≤ want.leaves.length) (fun i => want.leaves.length - i.1) (0, fun _ => 0) (by simp) (Weak.intro ⟨⟨_, rfl, .refl _⟩, ⟨_, rfl, .one (.own _ _ _ _)⟩, ⟨_, rfl, .refl _⟩, ⟨_, rfl, .refl _⟩, trivial⟩ ⟨⟨_, rfl, leL_refl _⟩, trivial⟩ rfl rfl) fun ⟨k, r⟩ hk => ?_
  dsimp only at hk
  (repeat (first | apply AK.seq | apply AK.block | apply AK.blk | apply AK.skip | (refine AK.reg follows_any (rs := []) (by rfl) ?_ ?_; first | exact trivial | exact ⟨trivial, trivial⟩ | exact ⟨trivial, trivial, trivial⟩ | exact ⟨trivial, trivial, trivial, trivial⟩ | fail) | fail))
  refine AK.cond (by rfl) (fun hb => ?_) (fun hb => ?_)
  · have hlt : k < want.leaves.length := by simpa [rowsLf_len] using hb
    obtain ⟨⟨p, z⟩, hg⟩ : ∃ x, want.leaves[k]? = some x := ⟨_, List.getElem?_eq_getElem hlt⟩
    have hpl := V.leaf_len (List.mem_of_getElem? hg)
    dsimp only at hpl
    have hct := chgA_take (live := live) hg
    have hcl := chgA_len live (want.leaves.take k)
    rw [List.length_take] at hcl
    rw [chg1] at hct
    cases hf : live.get p with
    | none =>
      rw [hf] at hct
      (repeat (first | apply AK.seq | apply AK.block | apply AK.blk | apply AK.skip | (refine AK.reg follows_any (rs := []) (by rfl) ?_ ?_; first | exact trivial | exact ⟨trivial, trivial⟩ | exact ⟨trivial, trivial, trivial⟩ | exact ⟨trivial, trivial, trivial, trivial⟩ | fail) | fail))
      refine AK.reg follows_any (rs := [.c (.lst .any 1 (rowsP p) :: [.int .i64 (z).kind, .bool (z).b, .int .i64 (z).n, .str (z).s, .lst .any 6 (rowsV (z).l), .lst .any 7 (rowsM (z).m)]), .v (.tup [.agg [.int .i64 0, .bool false, .int .i64 0, .str ⟨#[]⟩, .lst .any 6 [], .lst .any 7 []], .bool false])]) (by rfl) ?_ ?_
      · ((repeat' apply And.intro) <;> first | trivial | omega | (simp only [List.length_nil, List.length_cons]; omega) | (intro hgd; first | (rw [hgd]; rfl) | (refine ⟨?_, by repeat (first | exact trivial | refine ⟨hgd, ?_⟩)⟩; (repeat' apply And.intro) <;> first | trivial | omega | (intro h2; rw [hgd, h2]; rfl) | skip)) | skip)
        · exact rowsLf_at hg
        · exact refGets_none (by omega) (by omega) hf
      (repeat (first | apply AK.seq | apply AK.block | apply AK.blk | apply AK.skip | (refine AK.reg follows_any (rs := []) (by rfl) ?_ ?_; first | exact trivial | exact ⟨trivial, trivial⟩ | exact ⟨trivial, trivial, trivial⟩ | exact ⟨trivial, trivial, trivial, trivial⟩ | fail) | fail))
      refine AK.cond (by rfl) (fun hb => ?_) (fun hb => ?_)
      case refine_2.refine_2 => cases hb
      (repeat (first | apply AK.seq | apply AK.block | apply AK.blk | apply AK.skip | (refine AK.reg follows_any (rs := []) (by rfl) ?_ ?_; first | exact trivial | exact ⟨trivial, trivial⟩ | exact ⟨trivial, trivial, trivial⟩ | exact ⟨trivial, trivial, trivial, trivial⟩ | fail) | fail))
      refine AK.reg follows_any (rs := [.c (.lst .any 1 (rowsP p) :: [.int .i64 (z).kind, .bool (z).b, .int .i64 (z).n, .str (z).s, .lst .any 6 (rowsV (z).l), .lst .any 7 (rowsM (z).m)])]) (by rfl) ?_ ?_
      · ((repeat' apply And.intro) <;> first | trivial | omega | (simp only [List.length_nil, List.length_cons]; omega) | (intro hgd; first | (rw [hgd]; rfl) | (refine ⟨?_, by repeat (first | exact trivial | refine ⟨hgd, ?_⟩)⟩; (repeat' apply And.intro) <;> first | trivial | omega | (intro h2; rw [hgd, h2]; rfl) | skip)) | skip)
        · exact rowsLf_at hg
        all_goals simp only [rowsCh_len, List.length_append, List.length_nil, List.length_cons, List.length_map]
        all_goals omega
      (repeat (first | apply AK.seq | apply AK.block | apply AK.blk | apply AK.skip | (refine AK.reg follows_any (rs := []) (by rfl) ?_ ?_; first | exact trivial | exact ⟨trivial, trivial⟩ | exact ⟨trivial, trivial, trivial⟩ | exact ⟨trivial, trivial, trivial, trivial⟩ | fail) | fail))
      refine AK.lp ⟨(k + 1, _), by dsimp only; omega, Weak.intro ⟨⟨_, rfl, .refl _⟩, ⟨_, rfl, .of_eq (congrArg (AV.lst _ 2) ?_)⟩, ⟨_, rfl, .refl _⟩, ⟨_, rfl, .of_eq (congrArg _ (by first | omega | (rw [wrap_in (by omega) (by omega)]; omega)))⟩, trivial⟩ ⟨⟨_, rfl, leL_refl _⟩, trivial⟩ rfl rfl, by dsimp only; omega⟩
      rw [hct, rowsCh_append]
      rfl
    | some x =>
      rw [hf] at hct
      have hxs := get_size hf
      (repeat (first | apply AK.seq | apply AK.block | apply AK.blk | apply AK.skip | (refine AK.reg follows_any (rs := []) (by rfl) ?_ ?_; first | exact trivial | exact ⟨trivial, trivial⟩ | exact ⟨trivial, trivial, trivial⟩ | exact ⟨trivial, trivial, trivial, trivial⟩ | fail) | fail))
      refine AK.reg follows_any (rs := [.c (.lst .any 1 (rowsP p) :: [.int .i64 (z).kind, .bool (z).b, .int .i64 (z).n, .str (z).s, .lst .any 6 (rowsV (z).l), .lst .any 7 (rowsM (z).m)]), .v (.tup [.agg [.int .i64 (x).kind, .bool (x).b, .int .i64 (x).n, .str (x).s, .lst .any 6 (rowsV (x).l), .lst .any 7 (rowsM (x).m)], .bool true])]) (by rfl) ?_ ?_
      · ((repeat' apply And.intro) <;> first | trivial | omega | (simp only [List.length_nil, List.length_cons]; omega) | (intro hgd; first | (rw [hgd]; rfl) | (refine ⟨?_, by repeat (first | exact trivial | refine ⟨hgd, ?_⟩)⟩; (repeat' apply And.intro) <;> first | trivial | omega | (intro h2; rw [hgd, h2]; rfl) | skip)) | skip)
        · exact rowsLf_at hg
        · exact refGets_some (by omega) (by omega) hf
      (repeat (first | apply AK.seq | apply AK.block | apply AK.blk | apply AK.skip | (refine AK.reg follows_any (rs := []) (by rfl) ?_ ?_; first | exact trivial | exact ⟨trivial, trivial⟩ | exact ⟨trivial, trivial, trivial⟩ | exact ⟨trivial, trivial, trivial, trivial⟩ | fail) | fail))
      refine AK.cond (by rfl) (fun hb => ?_) (fun hb => ?_)
      · cases hb
      (repeat (first | apply AK.seq | apply AK.block | apply AK.blk | apply AK.skip | (refine AK.reg follows_any (rs := []) (by rfl) ?_ ?_; first | exact trivial | exact ⟨trivial, trivial⟩ | exact ⟨trivial, trivial, trivial⟩ | exact ⟨trivial, trivial, trivial, trivial⟩ | fail) | fail))
      refine AK.reg follows_any (rs := [.c (.lst .any 1 (rowsP p) :: [.int .i64 (z).kind, .bool (z).b, .int .i64 (z).n, .str (z).s, .lst .any 6 (rowsV (z).l), .lst .any 7 (rowsM (z).m)]), .v (.bool (x.sameB z))]) (by rfl) ?_ ?_
      · ((repeat' apply And.intro) <;> first | trivial | omega | (simp only [List.length_nil, List.length_cons]; omega) | (intro hgd; first | (rw [hgd]; rfl) | (refine ⟨?_, by repeat (first | exact trivial | refine ⟨hgd, ?_⟩)⟩; (repeat' apply And.intro) <;> first | trivial | omega | (intro h2; rw [hgd, h2]; rfl) | skip)) | skip)
        · exact rowsLf_at hg
        · exact refSame_a _ x z (Nat.le_refl _) (by omega)
      refine AK.cond (by rfl) (fun hb => ?_) (fun hb => ?_)
      · have he : x.sameB z = false := by simpa using hb
        simp only [he] at hct
        (repeat (first | apply AK.seq | apply AK.block | apply AK.blk | apply AK.skip | (refine AK.reg follows_any (rs := []) (by rfl) ?_ ?_; first | exact trivial | exact ⟨trivial, trivial⟩ | exact ⟨trivial, trivial, trivial⟩ | exact ⟨trivial, trivial, trivial, trivial⟩ | fail) | fail))
        refine AK.reg follows_any (rs := [.c (.lst .any 1 (rowsP p) :: [.int .i64 (z).kind, .bool (z).b, .int .i64 (z).n, .str (z).s, .lst .any 6 (rowsV (z).l), .lst .any 7 (rowsM (z).m)])]) (by rfl) ?_ ?_
        · ((repeat' apply And.intro) <;> first | trivial | omega | (simp only [List.length_nil, List.length_cons]; omega) | (intro hgd; first | (rw [hgd]; rfl) | (refine ⟨?_, by repeat (first | exact trivial | refine ⟨hgd, ?_⟩)⟩; (repeat' apply And.intro) <;> first | trivial | omega | (intro h2; rw [hgd, h2]; rfl) | skip)) | skip)
          · exact rowsLf_at hg
          all_goals simp only [rowsCh_len, List.length_append, List.length_nil, List.length_cons, List.length_map]
          all_goals omega
        (repeat (first | apply AK.seq | apply AK.block | apply AK.blk | apply AK.skip | (refine AK.reg follows_any (rs := []) (by rfl) ?_ ?_; first | exact trivial | exact ⟨trivial, trivial⟩ | exact ⟨trivial, trivial, trivial⟩ | exact ⟨trivial, trivial, trivial, trivial⟩ | fail) | fail))
        refine AK.lp ⟨(k + 1, _), by dsimp only; omega, Weak.intro ⟨⟨_, rfl, .refl _⟩, ⟨_, rfl, .of_eq (congrArg (AV.lst _ 2) ?_)⟩, ⟨_, rfl, .refl _⟩, ⟨_, rfl, .of_eq (congrArg _ (by first | omega | (rw [wrap_in (by omega) (by omega)]; omega)))⟩, trivial⟩ ⟨⟨_, rfl, leL_refl _⟩, trivial⟩ rfl rfl, by dsimp only; omega⟩
        rw [hct, rowsCh_append]
        rfl
      · have he : x.sameB z = true := by simpa using hb
        simp only [he] at hct
        (repeat (first | apply AK.seq | apply AK.block | apply AK.blk | apply AK.skip | (refine AK.reg follows_any (rs := []) (by rfl) ?_ ?_; first | exact trivial | exact ⟨trivial, trivial⟩ | exact ⟨trivial, trivial, trivial⟩ | exact ⟨trivial, trivial, trivial, trivial⟩ | fail) | fail))
        refine AK.lp ⟨(k + 1, _), by dsimp only; omega, Weak.intro ⟨⟨_, rfl, .refl _⟩, ⟨_, rfl, .of_eq (congrArg (AV.lst _ 2) ?_)⟩, ⟨_, rfl, .refl _⟩, ⟨_, rfl, .of_eq (congrArg _ (by first | omega | (rw [wrap_in (by omega) (by omega)]; omega)))⟩, trivial⟩ ⟨⟨_, rfl, leL_refl _⟩, trivial⟩ rfl rfl, by dsimp only; omega⟩
        rw [hct]
        simp
  · have hlt : k = want.leaves.length := by have : want.leaves.length ≤ k := by simpa [rowsLf_len] using hb
                                            omega
    subst hlt
    rw [List.take_length]
    have hal := chgA_len live want.leaves
    refine AK.exit rfl ?_
    (repeat (first | apply AK.seq | apply AK.block | apply AK.blk | apply AK.skip | (refine AK.reg follows_any (rs := []) (by rfl) ?_ ?_; first | exact trivial | exact ⟨trivial, trivial⟩ | exact ⟨trivial, trivial, trivial⟩ | exact ⟨trivial, trivial, trivial, trivial⟩ | fail) | fail))
    refine AK.reg follows_any (rs := [.v (.lst .any 7 (rowsLf live.leaves))]) (by rfl) ?_ ?_
    · ((repeat' apply And.intro) <;> first | trivial | omega | (simp only [List.length_nil, List.length_cons]; omega) | (intro hgd; first | (rw [hgd]; rfl) | (refine ⟨?_, by repeat (first | exact trivial | refine ⟨hgd, ?_⟩)⟩; (repeat' apply And.intro) <;> first | trivial | omega | (intro h2; rw [hgd, h2]; rfl) | skip)) | skip)
      · exact refLeaves_a _ live (Nat.le_refl _) h1
    (repeat (first | apply AK.seq | apply AK.block | apply AK.blk | apply AK.skip | (refine AK.reg follows_any (rs := []) (by rfl) ?_ ?_; first | exact trivial | exact ⟨trivial, trivial⟩ | exact ⟨trivial, trivial, trivial⟩ | exact ⟨trivial, trivial, trivial, trivial⟩ | fail) | fail))
    refine AK.loopI (fun i : Nat × (Nat → Nat) => (frOf [(5, .lst (.own 5 (i.2 5)) 2 (rowsCh (chgA live want.leaves ++ chgB want.leaves (live.leaves.take i.1)))), (6, .lst .any 7 (rowsLf want.leaves)), (10, .lst .any 7 (rowsLf live.leaves)), (11, .int .i64 i.1)], ⟨boxOf [], i.2⟩))
      (fun i => i.1 ≤ live.leaves.length) (fun i => live.leaves.length - i.1) (0, r) (by simp) (Weak.intro ⟨⟨_, rfl, .of_eq (by simp [chgB])⟩, ⟨_, rfl, .refl _⟩, ⟨_, rfl, .refl _⟩, ⟨_, rfl, .refl _⟩, trivial⟩ trivial rfl rfl) fun ⟨k, r⟩ hk => ?_
    dsimp only at hk
    (repeat (first | apply AK.seq | apply AK.block | apply AK.blk | apply AK.skip | (refine AK.reg follows_any (rs := []) (by rfl) ?_ ?_; first | exact trivial | exact ⟨trivial, trivial⟩ | exact ⟨trivial, trivial, trivial⟩ | exact ⟨trivial, trivial, trivial, trivial⟩ | fail) | fail))
    refine AK.cond (by rfl) (fun hb => ?_) (fun hb => ?_)
    · have hlt : k < live.leaves.length := by simpa [rowsLf_len] using hb
      obtain ⟨⟨p, z⟩, hg⟩ : ∃ x, live.leaves[k]? = some x := ⟨_, List.getElem?_eq_getElem hlt⟩
      have hpl := V.leaf_len (List.mem_of_getElem? hg)
      dsimp only at hpl
      have hct := chgB_take (ws := want.leaves) hg
      have hcl := chgB_len want.leaves (live.leaves.take k)
      rw [List.length_take] at hcl
      rw [chg3] at hct
      dsimp only at hct
      (repeat (first | apply AK.seq | apply AK.block | apply AK.blk | apply AK.skip | (refine AK.reg follows_any (rs := []) (by rfl) ?_ ?_; first | exact trivial | exact ⟨trivial, trivial⟩ | exact ⟨trivial, trivial, trivial⟩ | exact ⟨trivial, trivial, trivial, trivial⟩ | fail) | fail))
      refine AK.loopI (fun j : Nat => (frOf [(5, .lst (.own 5 (r 5)) 2 (rowsCh (chgA live want.leaves ++ chgB want.leaves (live.leaves.take k)))), (6, .lst .any 7 (rowsLf want.leaves)), (10, .lst .any 7 (rowsLf live.leaves)), (11, .int .i64 k), (12, .bool (owned (want.leaves.take j) p)), (13, .int .i64 j)], ⟨boxOf [], r⟩))
        (fun j => j ≤ want.leaves.length) (fun j => want.leaves.length - j) 0 (by simp) (Weak.intro ⟨⟨_, rfl, .refl _⟩, ⟨_, rfl, .refl _⟩, ⟨_, rfl, .refl _⟩, ⟨_, rfl, .refl _⟩, ⟨_, rfl, .refl _⟩, ⟨_, rfl, .refl _⟩, trivial⟩ trivial rfl rfl) fun j hj => ?_
      (repeat (first | apply AK.seq | apply AK.block | apply AK.blk | apply AK.skip | (refine AK.reg follows_any (rs := []) (by rfl) ?_ ?_; first | exact trivial | exact ⟨trivial, trivial⟩ | exact ⟨trivial, trivial, trivial⟩ | exact ⟨trivial, trivial, trivial, trivial⟩ | fail) | fail))
      refine AK.cond (by rfl) (fun hb => ?_) (fun hb => ?_)
      · have hlt : j < want.leaves.length := by simpa [rowsLf_len] using hb
        obtain ⟨⟨q, y⟩, hq⟩ : ∃ x, want.leaves[j]? = some x := ⟨_, List.getElem?_eq_getElem hlt⟩
        have hql := V.leaf_len (List.mem_of_getElem? hq)
        dsimp only at hql
        (repeat (first | apply AK.seq | apply AK.block | apply AK.blk | apply AK.skip | (refine AK.reg follows_any (rs := []) (by rfl) ?_ ?_; first | exact trivial | exact ⟨trivial, trivial⟩ | exact ⟨trivial, trivial, trivial⟩ | exact ⟨trivial, trivial, trivial, trivial⟩ | fail) | fail))
        refine AK.reg follows_any (rs := [.c (.lst .any 1 (rowsP p) :: [.int .i64 (z).kind, .bool (z).b, .int .i64 (z).n, .str (z).s, .lst .any 6 (rowsV (z).l), .lst .any 7 (rowsM (z).m)]), .c (.lst .any 1 (rowsP q) :: [.int .i64 (y).kind, .bool (y).b, .int .i64 (y).n, .str (y).s, .lst .any 6 (rowsV (y).l), .lst .any 7 (rowsM (y).m)]), .v (.bool (begins p q)), .c (.lst .any 1 (rowsP q) :: [.int .i64 (y).kind, .bool (y).b, .int .i64 (y).n, .str (y).s, .lst .any 6 (rowsV (y).l), .lst .any 7 (rowsM (y).m)]), .c (.lst .any 1 (rowsP p) :: [.int .i64 (z).kind, .bool (z).b, .int .i64 (z).n, .str (z).s, .lst .any 6 (rowsV (z).l), .lst .any 7 (rowsM (z).m)]), .v (.bool (begins q p))]) (by rfl) ?_ ?_
        · ((repeat' apply And.intro) <;> first | trivial | omega | (simp only [List.length_nil, List.length_cons]; omega) | (intro hgd; first | (rw [hgd]; rfl) | (refine ⟨?_, by repeat (first | exact trivial | refine ⟨hgd, ?_⟩)⟩; (repeat' apply And.intro) <;> first | trivial | omega | (intro h2; rw [hgd, h2]; rfl) | skip)) | skip)
          · exact rowsLf_at hg
          · exact rowsLf_at hq
          · exact refBegins_a p q (by omega) (by omega)
          · exact rowsLf_at hq
          · exact rowsLf_at hg
          · exact refBegins_a q p (by omega) (by omega)
        (repeat (first | apply AK.seq | apply AK.block | apply AK.blk | apply AK.skip | (refine AK.reg follows_any (rs := []) (by rfl) ?_ ?_; first | exact trivial | exact ⟨trivial, trivial⟩ | exact ⟨trivial, trivial, trivial⟩ | exact ⟨trivial, trivial, trivial, trivial⟩ | fail) | fail))
        exact AK.lp ⟨j + 1, by omega, Weak.intro ⟨⟨_, rfl, .refl _⟩, ⟨_, rfl, .refl _⟩, ⟨_, rfl, .refl _⟩, ⟨_, rfl, .refl _⟩, ⟨_, rfl, .of_eq (congrArg AV.bool (owned_take hq).symm)⟩, ⟨_, rfl, .of_eq (congrArg _ (by first | omega | (rw [wrap_in (by omega) (by omega)]; omega)))⟩, trivial⟩ trivial rfl rfl, by omega⟩
      · have hlt : j = want.leaves.length := by have : want.leaves.length ≤ j := by simpa [rowsLf_len] using hb
                                                omega
        subst hlt
        rw [List.take_length]
        refine AK.exit rfl ?_
        (repeat (first | apply AK.seq | apply AK.block | apply AK.blk | apply AK.skip | (refine AK.reg follows_any (rs := []) (by rfl) ?_ ?_; first | exact trivial | exact ⟨trivial, trivial⟩ | exact ⟨trivial, trivial, trivial⟩ | exact ⟨trivial, trivial, trivial, trivial⟩ | fail) | fail))
        refine AK.cond (by rfl) (fun hb => ?_) (fun hb => ?_)
        · have he : owned want.leaves p = false := by simpa using hb
          simp only [he] at hct
          (repeat (first | apply AK.seq | apply AK.block | apply AK.blk | apply AK.skip | (refine AK.reg follows_any (rs := []) (by rfl) ?_ ?_; first | exact trivial | exact ⟨trivial, trivial⟩ | exact ⟨trivial, trivial, trivial⟩ | exact ⟨trivial, trivial, trivial, trivial⟩ | fail) | fail))
          refine AK.reg follows_any (rs := [.c (.lst .any 1 (rowsP p) :: [.int .i64 (z).kind, .bool (z).b, .int .i64 (z).n, .str (z).s, .lst .any 6 (rowsV (z).l), .lst .any 7 (rowsM (z).m)])]) (by rfl) ?_ ?_
          · ((repeat' apply And.intro) <;> first | trivial | omega | (simp only [List.length_nil, List.length_cons]; omega) | (intro hgd; first | (rw [hgd]; rfl) | (refine ⟨?_, by repeat (first | exact trivial | refine ⟨hgd, ?_⟩)⟩; (repeat' apply And.intro) <;> first | trivial | omega | (intro h2; rw [hgd, h2]; rfl) | skip)) | skip)
            · exact rowsLf_at hg
            all_goals simp only [rowsCh_len, List.length_append, List.length_nil, List.length_cons, List.length_map]
            all_goals omega
          (repeat (first | apply AK.seq | apply AK.block | apply AK.blk | apply AK.skip | (refine AK.reg follows_any (rs := []) (by rfl) ?_ ?_; first | exact trivial | exact ⟨trivial, trivial⟩ | exact ⟨trivial, trivial, trivial⟩ | exact ⟨trivial, trivial, trivial, trivial⟩ | fail) | fail))
          refine AK.lp ⟨(k + 1, _), by dsimp only; omega, Weak.intro ⟨⟨_, rfl, .of_eq (congrArg (AV.lst _ 2) ?_)⟩, ⟨_, rfl, .refl _⟩, ⟨_, rfl, .refl _⟩, ⟨_, rfl, .of_eq (congrArg _ (by first | omega | (rw [wrap_in (by omega) (by omega)]; omega)))⟩, trivial⟩ trivial rfl rfl, by dsimp only; omega⟩
          rw [hct, ← List.append_assoc, rowsCh_append (_ ++ _) _]
          rfl
        · have he : owned want.leaves p = true := by simpa using hb
          simp only [he] at hct
          (repeat (first | apply AK.seq | apply AK.block | apply AK.blk | apply AK.skip | (refine AK.reg follows_any (rs := []) (by rfl) ?_ ?_; first | exact trivial | exact ⟨trivial, trivial⟩ | exact ⟨trivial, trivial, trivial⟩ | exact ⟨trivial, trivial, trivial, trivial⟩ | fail) | fail))
          refine AK.lp ⟨(k + 1, _), by dsimp only; omega, Weak.intro ⟨⟨_, rfl, .of_eq (congrArg (AV.lst _ 2) ?_)⟩, ⟨_, rfl, .refl _⟩, ⟨_, rfl, .refl _⟩, ⟨_, rfl, .of_eq (congrArg _ (by first | omega | (rw [wrap_in (by omega) (by omega)]; omega)))⟩, trivial⟩ trivial rfl rfl, by dsimp only; omega⟩
          rw [hct]
          simp
    · have hlt : k = live.leaves.length := by have : live.leaves.length ≤ k := by simpa [rowsLf_len] using hb
                                              omega
      subst hlt
      refine AK.exit rfl ?_
      (repeat (first | apply AK.seq | apply AK.block | apply AK.blk | apply AK.skip | (refine AK.reg follows_any (rs := []) (by rfl) ?_ ?_; first | exact trivial | exact ⟨trivial, trivial⟩ | exact ⟨trivial, trivial, trivial⟩ | exact ⟨trivial, trivial, trivial, trivial⟩ | fail) | fail))
      refine AK.ret ⟨_, rfl, ?_⟩
      rw [changes, List.take_length]
      rfl
end Go.Proofs.Ytamecdecpmklmaa
