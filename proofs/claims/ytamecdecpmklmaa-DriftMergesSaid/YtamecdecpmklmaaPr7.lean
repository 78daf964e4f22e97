/-
  The program's changes of an object, walked.
-/
import Derived.Test.YtamecdecpmklmaaPr6
namespace Go.Proofs.Ytamecdecpmklmaa
set_option linter.unusedSimpArgs false
set_option linter.unusedVariables false
open Go.RowKit

def ownsB (p : Path) (q : Path × V) : Bool := begins p q.1 || begins q.1 p
def ownIdx (p : Path) (ws : List (Path × V)) : Int := match ws.findIdx? (ownsB p) with
  | some i => i
  | none => -1
theorem ownIdx_owned (p : Path) (ws : List (Path × V)) : decide (ownIdx p ws ≥ 0) = owned ws p := by
  unfold ownIdx owned
  cases h : ws.findIdx? (ownsB p) with
  | none =>
    rw [List.findIdx?_eq_none_iff] at h
    have : (ws.any fun x => begins p x.1 || begins x.1 p) = false := by
      rw [List.any_eq_false]
      intro x hx
      have := h x hx
      simpa [ownsB] using this
    rw [this]; rfl
  | some i =>
    rw [List.findIdx?_eq_some_iff_getElem] at h
    obtain ⟨hi, h1, _⟩ := h
    have : (ws.any fun x => begins p x.1 || begins x.1 p) = true := List.any_eq_true.2 ⟨_, List.getElem_mem hi, h1⟩
    rw [this]
    exact decide_eq_true (by simp)
theorem driftOwn_a (p q : Path) (z y : V) (hp : p.length ≤ 2000000000000) (hq : q.length ≤ 2000000000000) :
    AC Try.prog 28 [.agg (.lst .any 1 (rowsP q) :: [.int .i64 (y).kind, .bool (y).b, .int .i64 (y).n, .str (y).s, .lst .any 6 (rowsV (y).l), .lst .any 7 (rowsM (y).m)]), .ro (.lst .any 1 (rowsP p) :: [.int .i64 (z).kind, .bool (z).b, .int .i64 (z).n, .str (z).s, .lst .any 6 (rowsV (z).l), .lst .any 7 (rowsM (z).m)])] (.bool (ownsB p (q, y))) := by
  refine AC.enter Try.func28 a_drift_Compare_1_ok a_drift_Compare_1_cb (by rfl) fun E hE => ?_
  show AK _ _ _ [.c b_drift_Compare_1] _ _
  rw [b_drift_Compare_1]
  (repeat (first | apply AK.seq | apply AK.block | apply AK.blk | apply AK.skip | (refine AK.reg follows_any (rs := []) (by rfl) ?_ ?_; first | exact trivial | exact ⟨trivial, trivial⟩ | exact ⟨trivial, trivial, trivial⟩ | exact ⟨trivial, trivial, trivial, trivial⟩ | fail) | fail))
  refine AK.reg follows_any (rs := [.v (.bool (begins p q)), .v (.bool (begins q p))]) (by rfl) ?_ ?_
  · ((repeat' apply And.intro) <;> first | trivial | omega | (simp only [List.length_nil, List.length_cons]; omega) | (intro hgd; first | (rw [hgd]; rfl) | (refine ⟨?_, by repeat (first | exact trivial | refine ⟨hgd, ?_⟩)⟩; (repeat' apply And.intro) <;> first | trivial | omega | (intro h2; rw [hgd, h2]; rfl) | skip)) | skip)
    · exact pathBegins_a p q hp
    · exact pathBegins_a q p hq
  (repeat (first | apply AK.seq | apply AK.block | apply AK.blk | apply AK.skip | (refine AK.reg follows_any (rs := []) (by rfl) ?_ ?_; first | exact trivial | exact ⟨trivial, trivial⟩ | exact ⟨trivial, trivial, trivial⟩ | exact ⟨trivial, trivial, trivial, trivial⟩ | fail) | fail))
  refine AK.ret ⟨_, rfl, ?_⟩
  rfl
theorem indexFunc_a (ws : List (Path × V)) (p : Path) (z : V) (hl : ws.length ≤ 2000000000000) (hp : p.length ≤ 2000000000000) (hq : ∀ q ∈ ws, q.1.length ≤ 2000000000000) :
    AC Try.prog 46 [.lst .any 7 (rowsLf ws), .fn 28 [.ro (.lst .any 1 (rowsP p) :: [.int .i64 (z).kind, .bool (z).b, .int .i64 (z).n, .str (z).s, .lst .any 6 (rowsV (z).l), .lst .any 7 (rowsM (z).m)])]] (.int .i64 (ownIdx p ws)) := by
  refine AC.enter Try.func46 a_slices_IndexFunc_Leaf_ok a_slices_IndexFunc_Leaf_cb (by rfl) fun E hE => ?_
  show AK _ _ _ [.c b_slices_IndexFunc_Leaf] _ _
  rw [b_slices_IndexFunc_Leaf]
  (repeat (first | apply AK.seq | apply AK.block | apply AK.blk | apply AK.skip | (refine AK.reg follows_any (rs := []) (by rfl) ?_ ?_; first | exact trivial | exact ⟨trivial, trivial⟩ | exact ⟨trivial, trivial, trivial⟩ | exact ⟨trivial, trivial, trivial, trivial⟩ | fail) | fail))
  refine AK.loopI (fun k : Nat => (frOf [(0, .lst .any 7 (rowsLf ws)), (1, .fn 28 [.ro (.lst .any 1 (rowsP p) :: [.int .i64 (z).kind, .bool (z).b, .int .i64 (z).n, .str (z).s, .lst .any 6 (rowsV (z).l), .lst .any 7 (rowsM (z).m)])]), (7, .int .i64 (rowsLf ws).length), (8, .int .i64 k)], ⟨boxOf [], fun _ => 0⟩)) (fun k => k ≤ ws.length ∧ ∀ j x, j < k → ws[j]? = some x → ownsB p x = false) (fun k => ws.length - k) 0 ⟨by simp, fun j x h => by omega⟩ (Weak.intro ⟨⟨_, rfl, .refl _⟩, ⟨_, rfl, .refl _⟩, ⟨_, rfl, .refl _⟩, ⟨_, rfl, .refl _⟩, trivial⟩ trivial rfl rfl) fun k ⟨hk, hr⟩ => ?_
  (repeat (first | apply AK.seq | apply AK.block | apply AK.blk | apply AK.skip | (refine AK.reg follows_any (rs := []) (by rfl) ?_ ?_; first | exact trivial | exact ⟨trivial, trivial⟩ | exact ⟨trivial, trivial, trivial⟩ | exact ⟨trivial, trivial, trivial, trivial⟩ | fail) | fail))
  refine AK.cond (by rfl) (fun hb => ?_) (fun hb => ?_)
  · have hlt : k < ws.length := by simpa [rowsLf_len] using hb
    obtain ⟨⟨q, y⟩, hg⟩ : ∃ x, ws[k]? = some x := ⟨_, List.getElem?_eq_getElem hlt⟩
    have hql := hq _ (List.mem_of_getElem? hg)
    dsimp only at hql
    (repeat (first | apply AK.seq | apply AK.block | apply AK.blk | apply AK.skip | (refine AK.reg follows_any (rs := []) (by rfl) ?_ ?_; first | exact trivial | exact ⟨trivial, trivial⟩ | exact ⟨trivial, trivial, trivial⟩ | exact ⟨trivial, trivial, trivial, trivial⟩ | fail) | fail))
    refine AK.reg follows_any (rs := [.c (.lst .any 1 (rowsP q) :: [.int .i64 (y).kind, .bool (y).b, .int .i64 (y).n, .str (y).s, .lst .any 6 (rowsV (y).l), .lst .any 7 (rowsM (y).m)]), .v (.bool (ownsB p (q, y)))]) (by rfl) ?_ ?_
    · ((repeat' apply And.intro) <;> first | trivial | omega | (simp only [List.length_nil, List.length_cons]; omega) | (intro hgd; first | (rw [hgd]; rfl) | (refine ⟨?_, by repeat (first | exact trivial | refine ⟨hgd, ?_⟩)⟩; (repeat' apply And.intro) <;> first | trivial | omega | (intro h2; rw [hgd, h2]; rfl) | skip)) | skip)
      · exact rowsLf_at hg
      · exact driftOwn_a p q z y hp hql
    refine AK.cond (by rfl) (fun hb => ?_) (fun hb => ?_)
    · have he : ws.findIdx? (ownsB p) = some k := by
        rw [List.findIdx?_eq_some_iff_getElem]
        refine ⟨hlt, ?_, fun j hj => ?_⟩
        · rw [List.getElem?_eq_getElem hlt] at hg
          rw [Option.some.inj hg]; exact hb
        · have := hr j _ hj (List.getElem?_eq_getElem (by omega))
          simpa using this
      (repeat (first | apply AK.seq | apply AK.block | apply AK.blk | apply AK.skip | (refine AK.reg follows_any (rs := []) (by rfl) ?_ ?_; first | exact trivial | exact ⟨trivial, trivial⟩ | exact ⟨trivial, trivial, trivial⟩ | exact ⟨trivial, trivial, trivial, trivial⟩ | fail) | fail))
      refine AK.ret ⟨_, rfl, ?_⟩
      exact congrArg (AV.int _) (by rw [ownIdx, he])
    · have hno : ownsB p (q, y) = false := hb
      (repeat (first | apply AK.seq | apply AK.block | apply AK.blk | apply AK.skip | (refine AK.reg follows_any (rs := []) (by rfl) ?_ ?_; first | exact trivial | exact ⟨trivial, trivial⟩ | exact ⟨trivial, trivial, trivial⟩ | exact ⟨trivial, trivial, trivial, trivial⟩ | fail) | fail))
      refine AK.lp ⟨k + 1, ⟨by omega, fun j x hj hx => ?_⟩, Weak.intro ⟨⟨_, rfl, .refl _⟩, ⟨_, rfl, .refl _⟩, ⟨_, rfl, .refl _⟩, ⟨_, rfl, .of_eq (congrArg _ (by first | omega | (rw [wrap_in (by omega) (by omega)]; omega)))⟩, trivial⟩ trivial rfl rfl, by omega⟩
      rcases Nat.lt_or_ge j k with h | h
      · exact hr j x h hx
      · obtain rfl : j = k := by omega
        rw [hg] at hx
        cases hx
        exact hno
  · have hlt : k = ws.length := by have : ws.length ≤ k := by simpa [rowsLf_len] using hb
                                   omega
    subst hlt
    have he : ws.findIdx? (ownsB p) = none := by
      rw [List.findIdx?_eq_none_iff]
      intro x hx
      obtain ⟨j, hj⟩ := List.getElem?_of_mem hx
      exact hr j x (List.getElem?_eq_some_iff.1 hj).1 hj
    refine AK.exit rfl ?_
    (repeat (first | apply AK.seq | apply AK.block | apply AK.blk | apply AK.skip | (refine AK.reg follows_any (rs := []) (by rfl) ?_ ?_; first | exact trivial | exact ⟨trivial, trivial⟩ | exact ⟨trivial, trivial, trivial⟩ | exact ⟨trivial, trivial, trivial, trivial⟩ | fail) | fail))
    refine AK.ret ⟨_, rfl, ?_⟩
    exact congrArg (AV.int _) (by rw [ownIdx, he])
theorem contains_a (ws : List (Path × V)) (p : Path) (z : V) (hl : ws.length ≤ 2000000000000) (hp : p.length ≤ 2000000000000) (hq : ∀ q ∈ ws, q.1.length ≤ 2000000000000) :
    AC Try.prog 30 [.lst .any 7 (rowsLf ws), .fn 28 [.ro (.lst .any 1 (rowsP p) :: [.int .i64 (z).kind, .bool (z).b, .int .i64 (z).n, .str (z).s, .lst .any 6 (rowsV (z).l), .lst .any 7 (rowsM (z).m)])]] (.bool (owned ws p)) := by
  rw [← ownIdx_owned]
  refine AC.enter Try.func30 a_slices_ContainsFunc_Leaf_ok a_slices_ContainsFunc_Leaf_cb (by rfl) fun E hE => ?_
  show AK _ _ _ [.c b_slices_ContainsFunc_Leaf] _ _
  rw [b_slices_ContainsFunc_Leaf]
  (repeat (first | apply AK.seq | apply AK.block | apply AK.blk | apply AK.skip | (refine AK.reg follows_any (rs := []) (by rfl) ?_ ?_; first | exact trivial | exact ⟨trivial, trivial⟩ | exact ⟨trivial, trivial, trivial⟩ | exact ⟨trivial, trivial, trivial, trivial⟩ | fail) | fail))
  refine AK.reg follows_any (rs := [.v (.int .i64 (ownIdx p ws))]) (by rfl) ?_ ?_
  · ((repeat' apply And.intro) <;> first | trivial | omega | (simp only [List.length_nil, List.length_cons]; omega) | (intro hgd; first | (rw [hgd]; rfl) | (refine ⟨?_, by repeat (first | exact trivial | refine ⟨hgd, ?_⟩)⟩; (repeat' apply And.intro) <;> first | trivial | omega | (intro h2; rw [hgd, h2]; rfl) | skip)) | skip)
    · exact indexFunc_a ws p z hl hp hq
  (repeat (first | apply AK.seq | apply AK.block | apply AK.blk | apply AK.skip | (refine AK.reg follows_any (rs := []) (by rfl) ?_ ?_; first | exact trivial | exact ⟨trivial, trivial⟩ | exact ⟨trivial, trivial, trivial⟩ | exact ⟨trivial, trivial, trivial, trivial⟩ | fail) | fail))
  refine AK.ret ⟨_, rfl, ?_⟩
  rfl

theorem get_good : ∀ {p : Path} {v x : V}, v.good → v.get p = some x → x.good
  | [], v, x, hv, h => by cases h; exact hv
  | s :: p, v, x, hv, h => by
    rw [V.get] at h
    split at h
    · cases h
    · rename_i y hy
      exact get_good (good_m hv (mem_of_mfind hy)) h
theorem leaf_good {v : V} (hv : v.good) {q : Path × V} (hq : q ∈ v.leaves) : q.2.good := get_good hv (V.get_leaf hv hq)
theorem pathGet_none (hc : CloneOk) {v : V} {p : Path} (hg : v.good) (hsz : v.size ≤ 1000000000000) (hp : p.length ≤ 2000000000000) (h : v.get p = none) : AC Try.prog 26 [.agg [.int .i64 (v).kind, .bool (v).b, .int .i64 (v).n, .str (v).s, .lst .any 6 (rowsV (v).l), .lst .any 7 (rowsM (v).m)], .lst .any 1 (rowsP p)] nullAV := by
  have := pathGet_a hc v p hg hsz hp
  rw [h] at this
  exact this
theorem pathGet_some (hc : CloneOk) {v : V} {p : Path} (hg : v.good) (hsz : v.size ≤ 1000000000000) (hp : p.length ≤ 2000000000000) {x : V} (h : v.get p = some x) : AC Try.prog 26 [.agg [.int .i64 (v).kind, .bool (v).b, .int .i64 (v).n, .str (v).s, .lst .any 6 (rowsV (v).l), .lst .any 7 (rowsM (v).m)], .lst .any 1 (rowsP p)] (.tup [.agg [.int .i64 (x).kind, .bool (x).b, .int .i64 (x).n, .str (x).s, .lst .any 6 (rowsV (x).l), .lst .any 7 (rowsM (x).m)], .bool true]) := by
  have := pathGet_a hc v p hg hsz hp
  rw [h] at this
  exact this

set_option maxRecDepth 4000 in
theorem driftCompare_a (hc : CloneOk) (ka kb kc : ByteArray) (live want : V) (g1 : live.good) (g2 : want.good) (h1 : live.size ≤ 1000000) (h2 : want.size ≤ 1000000) :
    AC Try.prog 9 [.agg [.str ka, .str kb, .str kc], .agg [.int .i64 (live).kind, .bool (live).b, .int .i64 (live).n, .str (live).s, .lst .any 6 (rowsV (live).l), .lst .any 7 (rowsM (live).m)], .agg [.int .i64 (want).kind, .bool (want).b, .int .i64 (want).n, .str (want).s, .lst .any 6 (rowsV (want).l), .lst .any 7 (rowsM (want).m)]] (.lst .any 5 (rowsDc ka kb kc (changes live want))) := by
  have hwl := want.leaves_len
  have hll := live.leaves_len
  have hwd := want.depth_le_size'
  have hld := live.depth_le_size'
  refine AC.enter Try.func9 a_drift_Compare_ok a_drift_Compare_cb (by rfl) fun E hE => ?_
  show AK _ _ _ [.c b_drift_Compare] _ _
  rw [b_drift_Compare]
  (repeat (first | apply AK.seq | apply AK.block | apply AK.blk | apply AK.skip | (refine AK.reg follows_any (rs := []) (by rfl) ?_ ?_; first | exact trivial | exact ⟨trivial, trivial⟩ | exact ⟨trivial, trivial, trivial⟩ | exact ⟨trivial, trivial, trivial, trivial⟩ | fail) | fail))
  refine AK.reg follows_any (rs := [.v (.lst .any 7 (rowsLf want.leaves))]) (by rfl) ?_ ?_
  · ((repeat' apply And.intro) <;> first | trivial | omega | (simp only [List.length_nil, List.length_cons]; omega) | (intro hgd; first | (rw [hgd]; rfl) | (refine ⟨?_, by repeat (first | exact trivial | refine ⟨hgd, ?_⟩)⟩; (repeat' apply And.intro) <;> first | trivial | omega | (intro h2; rw [hgd, h2]; rfl) | skip)) | skip)
    · exact pathLeaves_a hc _ want (Nat.le_refl _) g2 h2
  (repeat (first | apply AK.seq | apply AK.block | apply AK.blk | apply AK.skip | (refine AK.reg follows_any (rs := []) (by rfl) ?_ ?_; first | exact trivial | exact ⟨trivial, trivial⟩ | exact ⟨trivial, trivial, trivial⟩ | exact ⟨trivial, trivial, trivial, trivial⟩ | fail) | fail))
  refine AK.loopI (fun i : Nat × (Nat → Nat) => (frOf [(3, .ptr 3 0), (4, .ptr 4 0), (7, .lst (.own 7 (i.2 7)) 5 (rowsDc ka kb kc (chgA live (want.leaves.take i.1)))), (8, .lst .any 7 (rowsLf want.leaves)), (18, .lst .any 7 (rowsLf want.leaves)), (19, .int .i64 (rowsLf want.leaves).length), (20, .int .i64 i.1)], ⟨boxOf [(3, [.str ka, .str kb, .str kc], false), (4, [.int .i64 (live).kind, .bool (live).b, .int .i64 (live).n, .str (live).s, .lst .any 6 (rowsV (live).l), .lst .any 7 (rowsM (live).m)], false)], i.2⟩))
    (fun i => i.1 ≤ want.leaves.length) (fun i => want.leaves.length - i.1) (0, fun _ => 0) (by simp) (Weak.intro ⟨⟨_, rfl, .refl _⟩, ⟨_, rfl, .refl _⟩, ⟨_, rfl, .one (.own _ _ _ _)⟩, ⟨_, rfl, .refl _⟩, ⟨_, rfl, .refl _⟩, ⟨_, rfl, .refl _⟩, ⟨_, rfl, .refl _⟩, trivial⟩ ⟨⟨_, rfl, leL_refl _⟩, ⟨_, rfl, leL_refl _⟩, trivial⟩ rfl rfl) fun ⟨k, r⟩ hk => ?_
  dsimp only at hk
  (repeat (first | apply AK.seq | apply AK.block | apply AK.blk | apply AK.skip | (refine AK.reg follows_any (rs := []) (by rfl) ?_ ?_; first | exact trivial | exact ⟨trivial, trivial⟩ | exact ⟨trivial, trivial, trivial⟩ | exact ⟨trivial, trivial, trivial, trivial⟩ | fail) | fail))
  refine AK.cond (by rfl) (fun hb => ?_) (fun hb => ?_)
  · have hlt : k < want.leaves.length := by simpa [rowsLf_len] using hb
    obtain ⟨⟨p, z⟩, hg⟩ : ∃ x, want.leaves[k]? = some x := ⟨_, List.getElem?_eq_getElem hlt⟩
    have hpl := V.leaf_len (List.mem_of_getElem? hg)
    have hzg := leaf_good g2 (List.mem_of_getElem? hg)
    dsimp only at hpl hzg
    have hct := chgA_take (live := live) hg
    have hcl := chgA_len live (want.leaves.take k)
    rw [List.length_take] at hcl
    rw [chg1] at hct
    (repeat (first | apply AK.seq | apply AK.block | apply AK.blk | apply AK.skip | (refine AK.reg follows_any (rs := []) (by rfl) ?_ ?_; first | exact trivial | exact ⟨trivial, trivial⟩ | exact ⟨trivial, trivial, trivial⟩ | exact ⟨trivial, trivial, trivial, trivial⟩ | fail) | fail))
    refine AK.reg follows_any (rs := [.c (.lst .any 1 (rowsP p) :: [.int .i64 (z).kind, .bool (z).b, .int .i64 (z).n, .str (z).s, .lst .any 6 (rowsV (z).l), .lst .any 7 (rowsM (z).m)])]) (by rfl) ?_ ?_
    · ((repeat' apply And.intro) <;> first | trivial | omega | (simp only [List.length_nil, List.length_cons]; omega) | (intro hgd; first | (rw [hgd]; rfl) | (refine ⟨?_, by repeat (first | exact trivial | refine ⟨hgd, ?_⟩)⟩; (repeat' apply And.intro) <;> first | trivial | omega | (intro h2; rw [hgd, h2]; rfl) | skip)) | skip)
      · exact rowsLf_at hg
    cases hf : live.get p with
    | none =>
      rw [hf] at hct
      (repeat (first | apply AK.seq | apply AK.block | apply AK.blk | apply AK.skip | (refine AK.reg follows_any (rs := []) (by rfl) ?_ ?_; first | exact trivial | exact ⟨trivial, trivial⟩ | exact ⟨trivial, trivial, trivial⟩ | exact ⟨trivial, trivial, trivial, trivial⟩ | fail) | fail))
      refine AK.reg follows_any (rs := [.v (.tup [.agg [.int .i64 0, .bool false, .int .i64 0, .str ⟨#[]⟩, .lst .any 6 [], .lst .any 7 []], .bool false])]) (by rfl) ?_ ?_
      · ((repeat' apply And.intro) <;> first | trivial | omega | (simp only [List.length_nil, List.length_cons]; omega) | (intro hgd; first | (rw [hgd]; rfl) | (refine ⟨?_, by repeat (first | exact trivial | refine ⟨hgd, ?_⟩)⟩; (repeat' apply And.intro) <;> first | trivial | omega | (intro h2; rw [hgd, h2]; rfl) | skip)) | skip)
        · exact pathGet_none hc g1 (by omega) (by omega) hf
      (repeat (first | apply AK.seq | apply AK.block | apply AK.blk | apply AK.skip | (refine AK.reg follows_any (rs := []) (by rfl) ?_ ?_; first | exact trivial | exact ⟨trivial, trivial⟩ | exact ⟨trivial, trivial, trivial⟩ | exact ⟨trivial, trivial, trivial, trivial⟩ | fail) | fail))
      refine AK.cond (by rfl) (fun hb => ?_) (fun hb => ?_)
      case refine_2.refine_2 => cases hb
      (repeat (first | apply AK.seq | apply AK.block | apply AK.blk | apply AK.skip | (refine AK.reg follows_any (rs := []) (by rfl) ?_ ?_; first | exact trivial | exact ⟨trivial, trivial⟩ | exact ⟨trivial, trivial, trivial⟩ | exact ⟨trivial, trivial, trivial, trivial⟩ | fail) | fail))
      refine AK.reg follows_any (rs := []) (by rfl) ?_ ?_
      · ((repeat' apply And.intro) <;> first | trivial | omega | (simp only [List.length_nil, List.length_cons]; omega) | (intro hgd; first | (rw [hgd]; rfl) | (refine ⟨?_, by repeat (first | exact trivial | refine ⟨hgd, ?_⟩)⟩; (repeat' apply And.intro) <;> first | trivial | omega | (intro h2; rw [hgd, h2]; rfl) | skip)) | skip)
        all_goals simp only [rowsDc_len, List.length_append, List.length_nil, List.length_cons, List.length_map]
        all_goals omega
      (repeat (first | apply AK.seq | apply AK.block | apply AK.blk | apply AK.skip | (refine AK.reg follows_any (rs := []) (by rfl) ?_ ?_; first | exact trivial | exact ⟨trivial, trivial⟩ | exact ⟨trivial, trivial, trivial⟩ | exact ⟨trivial, trivial, trivial, trivial⟩ | fail) | fail))
      refine AK.lp ⟨(k + 1, _), by dsimp only; omega, Weak.intro ⟨⟨_, rfl, .refl _⟩, ⟨_, rfl, .refl _⟩, ⟨_, rfl, .of_eq (congrArg (AV.lst _ 5) ?_)⟩, ⟨_, rfl, .refl _⟩, ⟨_, rfl, .refl _⟩, ⟨_, rfl, .refl _⟩, ⟨_, rfl, .of_eq (congrArg _ (by first | omega | (rw [wrap_in (by omega) (by omega)]; omega)))⟩, trivial⟩ ⟨⟨_, rfl, leL_refl _⟩, ⟨_, rfl, leL_refl _⟩, trivial⟩ rfl rfl, by dsimp only; omega⟩
      rw [hct, rowsDc_append]
      rfl
    | some x =>
      rw [hf] at hct
      have hxs := get_size hf
      have hxg := get_good g1 hf
      (repeat (first | apply AK.seq | apply AK.block | apply AK.blk | apply AK.skip | (refine AK.reg follows_any (rs := []) (by rfl) ?_ ?_; first | exact trivial | exact ⟨trivial, trivial⟩ | exact ⟨trivial, trivial, trivial⟩ | exact ⟨trivial, trivial, trivial, trivial⟩ | fail) | fail))
      refine AK.reg follows_any (rs := [.v (.tup [.agg [.int .i64 (x).kind, .bool (x).b, .int .i64 (x).n, .str (x).s, .lst .any 6 (rowsV (x).l), .lst .any 7 (rowsM (x).m)], .bool true])]) (by rfl) ?_ ?_
      · ((repeat' apply And.intro) <;> first | trivial | omega | (simp only [List.length_nil, List.length_cons]; omega) | (intro hgd; first | (rw [hgd]; rfl) | (refine ⟨?_, by repeat (first | exact trivial | refine ⟨hgd, ?_⟩)⟩; (repeat' apply And.intro) <;> first | trivial | omega | (intro h2; rw [hgd, h2]; rfl) | skip)) | skip)
        · exact pathGet_some hc g1 (by omega) (by omega) hf
      (repeat (first | apply AK.seq | apply AK.block | apply AK.blk | apply AK.skip | (refine AK.reg follows_any (rs := []) (by rfl) ?_ ?_; first | exact trivial | exact ⟨trivial, trivial⟩ | exact ⟨trivial, trivial, trivial⟩ | exact ⟨trivial, trivial, trivial, trivial⟩ | fail) | fail))
      refine AK.cond (by rfl) (fun hb => ?_) (fun hb => ?_)
      · cases hb
      (repeat (first | apply AK.seq | apply AK.block | apply AK.blk | apply AK.skip | (refine AK.reg follows_any (rs := []) (by rfl) ?_ ?_; first | exact trivial | exact ⟨trivial, trivial⟩ | exact ⟨trivial, trivial, trivial⟩ | exact ⟨trivial, trivial, trivial, trivial⟩ | fail) | fail))
      refine AK.reg follows_any (rs := [.v (.bool (x.sameB z))]) (by rfl) ?_ ?_
      · ((repeat' apply And.intro) <;> first | trivial | omega | (simp only [List.length_nil, List.length_cons]; omega) | (intro hgd; first | (rw [hgd]; rfl) | (refine ⟨?_, by repeat (first | exact trivial | refine ⟨hgd, ?_⟩)⟩; (repeat' apply And.intro) <;> first | trivial | omega | (intro h2; rw [hgd, h2]; rfl) | skip)) | skip)
        · exact treeSame_a x z hxg hzg (by omega) (by omega)
      (repeat (first | apply AK.seq | apply AK.block | apply AK.blk | apply AK.skip | (refine AK.reg follows_any (rs := []) (by rfl) ?_ ?_; first | exact trivial | exact ⟨trivial, trivial⟩ | exact ⟨trivial, trivial, trivial⟩ | exact ⟨trivial, trivial, trivial, trivial⟩ | fail) | fail))
      refine AK.cond (by rfl) (fun hb => ?_) (fun hb => ?_)
      · have he : x.sameB z = false := by simpa using hb
        simp only [he] at hct
        (repeat (first | apply AK.seq | apply AK.block | apply AK.blk | apply AK.skip | (refine AK.reg follows_any (rs := []) (by rfl) ?_ ?_; first | exact trivial | exact ⟨trivial, trivial⟩ | exact ⟨trivial, trivial, trivial⟩ | exact ⟨trivial, trivial, trivial, trivial⟩ | fail) | fail))
        refine AK.reg follows_any (rs := []) (by rfl) ?_ ?_
        · ((repeat' apply And.intro) <;> first | trivial | omega | (simp only [List.length_nil, List.length_cons]; omega) | (intro hgd; first | (rw [hgd]; rfl) | (refine ⟨?_, by repeat (first | exact trivial | refine ⟨hgd, ?_⟩)⟩; (repeat' apply And.intro) <;> first | trivial | omega | (intro h2; rw [hgd, h2]; rfl) | skip)) | skip)
          all_goals simp only [rowsDc_len, List.length_append, List.length_nil, List.length_cons, List.length_map]
          all_goals omega
        (repeat (first | apply AK.seq | apply AK.block | apply AK.blk | apply AK.skip | (refine AK.reg follows_any (rs := []) (by rfl) ?_ ?_; first | exact trivial | exact ⟨trivial, trivial⟩ | exact ⟨trivial, trivial, trivial⟩ | exact ⟨trivial, trivial, trivial, trivial⟩ | fail) | fail))
        refine AK.lp ⟨(k + 1, _), by dsimp only; omega, Weak.intro ⟨⟨_, rfl, .refl _⟩, ⟨_, rfl, .refl _⟩, ⟨_, rfl, .of_eq (congrArg (AV.lst _ 5) ?_)⟩, ⟨_, rfl, .refl _⟩, ⟨_, rfl, .refl _⟩, ⟨_, rfl, .refl _⟩, ⟨_, rfl, .of_eq (congrArg _ (by first | omega | (rw [wrap_in (by omega) (by omega)]; omega)))⟩, trivial⟩ ⟨⟨_, rfl, leL_refl _⟩, ⟨_, rfl, leL_refl _⟩, trivial⟩ rfl rfl, by dsimp only; omega⟩
        rw [hct, rowsDc_append]
        rfl
      · have he : x.sameB z = true := by simpa using hb
        simp only [he] at hct
        (repeat (first | apply AK.seq | apply AK.block | apply AK.blk | apply AK.skip | (refine AK.reg follows_any (rs := []) (by rfl) ?_ ?_; first | exact trivial | exact ⟨trivial, trivial⟩ | exact ⟨trivial, trivial, trivial⟩ | exact ⟨trivial, trivial, trivial, trivial⟩ | fail) | fail))
        refine AK.lp ⟨(k + 1, _), by dsimp only; omega, Weak.intro ⟨⟨_, rfl, .refl _⟩, ⟨_, rfl, .refl _⟩, ⟨_, rfl, .of_eq (congrArg (AV.lst _ 5) ?_)⟩, ⟨_, rfl, .refl _⟩, ⟨_, rfl, .refl _⟩, ⟨_, rfl, .refl _⟩, ⟨_, rfl, .of_eq (congrArg _ (by first | omega | (rw [wrap_in (by omega) (by omega)]; omega)))⟩, trivial⟩ ⟨⟨_, rfl, leL_refl _⟩, ⟨_, rfl, leL_refl _⟩, trivial⟩ rfl rfl, by dsimp only; omega⟩
        rw [hct]
        simp
  · have hlt : k = want.leaves.length := by have : want.leaves.length ≤ k := by simpa [rowsLf_len] using hb
                                            omega
    subst hlt
    rw [List.take_length]
    have hal := chgA_len live want.leaves
    refine AK.exit rfl ?_
    (repeat (first | apply AK.seq | apply AK.block | apply AK.blk | apply AK.skip | (refine AK.reg follows_any (rs := []) (by rfl) ?_ ?_; first | exact trivial | exact ⟨trivial, trivial⟩ | exact ⟨trivial, trivial, trivial⟩ | exact ⟨trivial, trivial, trivial, trivial⟩ | fail) | fail))
    refine AK.reg follows_any (rs := [.v (.lst .any 7 (rowsLf live.leaves))]) (by rfl) ?_ ?_
    · ((repeat' apply And.intro) <;> first | trivial | omega | (simp only [List.length_nil, List.length_cons]; omega) | (intro hgd; first | (rw [hgd]; rfl) | (refine ⟨?_, by repeat (first | exact trivial | refine ⟨hgd, ?_⟩)⟩; (repeat' apply And.intro) <;> first | trivial | omega | (intro h2; rw [hgd, h2]; rfl) | skip)) | skip)
      · exact pathLeaves_a hc _ live (Nat.le_refl _) g1 h1
    (repeat (first | apply AK.seq | apply AK.block | apply AK.blk | apply AK.skip | (refine AK.reg follows_any (rs := []) (by rfl) ?_ ?_; first | exact trivial | exact ⟨trivial, trivial⟩ | exact ⟨trivial, trivial, trivial⟩ | exact ⟨trivial, trivial, trivial, trivial⟩ | fail) | fail))
    refine AK.loopI (fun i : Nat × (Nat → Nat) => (frOf [(3, .ptr 3 0), (7, .lst (.own 7 (i.2 7)) 5 (rowsDc ka kb kc (chgA live want.leaves ++ chgB want.leaves (live.leaves.take i.1)))), (8, .lst .any 7 (rowsLf want.leaves)), (56, .lst .any 7 (rowsLf live.leaves)), (57, .int .i64 (rowsLf live.leaves).length), (58, .int .i64 i.1)], ⟨boxOf [(3, [.str ka, .str kb, .str kc], false)], i.2⟩))
      (fun i => i.1 ≤ live.leaves.length) (fun i => live.leaves.length - i.1) (0, r) (by simp) (Weak.intro ⟨⟨_, rfl, .refl _⟩, ⟨_, rfl, .of_eq (by simp [chgB])⟩, ⟨_, rfl, .refl _⟩, ⟨_, rfl, .refl _⟩, ⟨_, rfl, .refl _⟩, ⟨_, rfl, .refl _⟩, trivial⟩ ⟨⟨_, rfl, leL_refl _⟩, trivial⟩ rfl rfl) fun ⟨k, r⟩ hk => ?_
    dsimp only at hk
    (repeat (first | apply AK.seq | apply AK.block | apply AK.blk | apply AK.skip | (refine AK.reg follows_any (rs := []) (by rfl) ?_ ?_; first | exact trivial | exact ⟨trivial, trivial⟩ | exact ⟨trivial, trivial, trivial⟩ | exact ⟨trivial, trivial, trivial, trivial⟩ | fail) | fail))
    refine AK.cond (by rfl) (fun hb => ?_) (fun hb => ?_)
    · have hlt : k < live.leaves.length := by simpa [rowsLf_len] using hb
      obtain ⟨⟨p, z⟩, hg⟩ : ∃ x, live.leaves[k]? = some x := ⟨_, List.getElem?_eq_getElem hlt⟩
      have hpl := V.leaf_len (List.mem_of_getElem? hg)
      dsimp only at hpl
      have hct := chgB_take (ws := want.leaves) hg
      have hcl := chgB_len want.leaves (live.leaves.take k)
      rw [List.length_take] at hcl
      rw [chg3] at hct
      dsimp only at hct
      (repeat (first | apply AK.seq | apply AK.block | apply AK.blk | apply AK.skip | (refine AK.reg follows_any (rs := []) (by rfl) ?_ ?_; first | exact trivial | exact ⟨trivial, trivial⟩ | exact ⟨trivial, trivial, trivial⟩ | exact ⟨trivial, trivial, trivial, trivial⟩ | fail) | fail))
      refine AK.reg follows_any (rs := [.c (.lst .any 1 (rowsP p) :: [.int .i64 (z).kind, .bool (z).b, .int .i64 (z).n, .str (z).s, .lst .any 6 (rowsV (z).l), .lst .any 7 (rowsM (z).m)])]) (by rfl) ?_ ?_
      · ((repeat' apply And.intro) <;> first | trivial | omega | (simp only [List.length_nil, List.length_cons]; omega) | (intro hgd; first | (rw [hgd]; rfl) | (refine ⟨?_, by repeat (first | exact trivial | refine ⟨hgd, ?_⟩)⟩; (repeat' apply And.intro) <;> first | trivial | omega | (intro h2; rw [hgd, h2]; rfl) | skip)) | skip)
        · exact rowsLf_at hg
      (repeat (first | apply AK.seq | apply AK.block | apply AK.blk | apply AK.skip | (refine AK.reg follows_any (rs := []) (by rfl) ?_ ?_; first | exact trivial | exact ⟨trivial, trivial⟩ | exact ⟨trivial, trivial, trivial⟩ | exact ⟨trivial, trivial, trivial, trivial⟩ | fail) | fail))
      refine AK.reg follows_any (rs := [.v (.bool (owned want.leaves p))]) (by rfl) ?_ ?_
      · ((repeat' apply And.intro) <;> first | trivial | omega | (simp only [List.length_nil, List.length_cons]; omega) | (intro hgd; first | (rw [hgd]; rfl) | (refine ⟨?_, by repeat (first | exact trivial | refine ⟨hgd, ?_⟩)⟩; (repeat' apply And.intro) <;> first | trivial | omega | (intro h2; rw [hgd, h2]; rfl) | skip)) | skip)
        · exact contains_a want.leaves p z (by omega) (by omega) fun q hq => by have := V.leaf_len hq; omega
      refine AK.cond (by rfl) (fun hb => ?_) (fun hb => ?_)
      · have he : owned want.leaves p = false := by simpa using hb
        simp only [he] at hct
        (repeat (first | apply AK.seq | apply AK.block | apply AK.blk | apply AK.skip | (refine AK.reg follows_any (rs := []) (by rfl) ?_ ?_; first | exact trivial | exact ⟨trivial, trivial⟩ | exact ⟨trivial, trivial, trivial⟩ | exact ⟨trivial, trivial, trivial, trivial⟩ | fail) | fail))
        refine AK.reg follows_any (rs := []) (by rfl) ?_ ?_
        · ((repeat' apply And.intro) <;> first | trivial | omega | (simp only [List.length_nil, List.length_cons]; omega) | (intro hgd; first | (rw [hgd]; rfl) | (refine ⟨?_, by repeat (first | exact trivial | refine ⟨hgd, ?_⟩)⟩; (repeat' apply And.intro) <;> first | trivial | omega | (intro h2; rw [hgd, h2]; rfl) | skip)) | skip)
          all_goals simp only [rowsDc_len, List.length_append, List.length_nil, List.length_cons, List.length_map]
          all_goals omega
        (repeat (first | apply AK.seq | apply AK.block | apply AK.blk | apply AK.skip | (refine AK.reg follows_any (rs := []) (by rfl) ?_ ?_; first | exact trivial | exact ⟨trivial, trivial⟩ | exact ⟨trivial, trivial, trivial⟩ | exact ⟨trivial, trivial, trivial, trivial⟩ | fail) | fail))
        refine AK.lp ⟨(k + 1, _), by dsimp only; omega, Weak.intro ⟨⟨_, rfl, .refl _⟩, ⟨_, rfl, .of_eq (congrArg (AV.lst _ 5) ?_)⟩, ⟨_, rfl, .refl _⟩, ⟨_, rfl, .refl _⟩, ⟨_, rfl, .refl _⟩, ⟨_, rfl, .of_eq (congrArg _ (by first | omega | (rw [wrap_in (by omega) (by omega)]; omega)))⟩, trivial⟩ ⟨⟨_, rfl, leL_refl _⟩, trivial⟩ rfl rfl, by dsimp only; omega⟩
        rw [hct, ← List.append_assoc, rowsDc_append _ _ _ (_ ++ _) _]
        rfl
      · have he : owned want.leaves p = true := by simpa using hb
        simp only [he] at hct
        (repeat (first | apply AK.seq | apply AK.block | apply AK.blk | apply AK.skip | (refine AK.reg follows_any (rs := []) (by rfl) ?_ ?_; first | exact trivial | exact ⟨trivial, trivial⟩ | exact ⟨trivial, trivial, trivial⟩ | exact ⟨trivial, trivial, trivial, trivial⟩ | fail) | fail))
        refine AK.lp ⟨(k + 1, _), by dsimp only; omega, Weak.intro ⟨⟨_, rfl, .refl _⟩, ⟨_, rfl, .of_eq (congrArg (AV.lst _ 5) ?_)⟩, ⟨_, rfl, .refl _⟩, ⟨_, rfl, .refl _⟩, ⟨_, rfl, .refl _⟩, ⟨_, rfl, .of_eq (congrArg _ (by first | omega | (rw [wrap_in (by omega) (by omega)]; omega)))⟩, trivial⟩ ⟨⟨_, rfl, leL_refl _⟩, trivial⟩ rfl rfl, by dsimp only; omega⟩
        rw [hct]
        simp
    · have hlt : k = live.leaves.length := by have : live.leaves.length ≤ k := by simpa [rowsLf_len] using hb
                                              omega
      subst hlt
      refine AK.exit rfl ?_
      (repeat (first | apply AK.seq | apply AK.block | apply AK.blk | apply AK.skip | (refine AK.reg follows_any (rs := []) (by rfl) ?_ ?_; first | exact trivial | exact ⟨trivial, trivial⟩ | exact ⟨trivial, trivial, trivial⟩ | exact ⟨trivial, trivial, trivial, trivial⟩ | fail) | fail))
      refine AK.ret ⟨_, rfl, ?_⟩
      rw [changes, List.take_length]
      rfl
end Go.Proofs.Ytamecdecpmklmaa
