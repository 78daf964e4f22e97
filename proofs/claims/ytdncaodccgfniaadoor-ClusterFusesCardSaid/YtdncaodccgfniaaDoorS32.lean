/-
  The texts that the claim wants, one behind the other: part 32.
-/
import Derived.Test.YtdncaodccgfniaaDoorS31
set_option linter.unusedSimpArgs false
set_option linter.unusedVariables false
namespace Go.Proofs.YtdncaodccgfniaaDoor
open Go.RowKit Go.Maps Go.MapKept Go.ChangeMaps
abbrev zA : List AV := [.int .i64 0, .bool false, .int .i64 0, .str ⟨#[]⟩, .lst .nil 6 [], .lst .nil 7 []]
set_option maxHeartbeats 20000000 in
theorem create_m {rows : List MRow} {a b c : ByteArray} (hk : KeysOk Tryd.prog 31 rows) (h : KeyI a b c) (hi : idOk a b c) (ho : Found rows (idK a b c) none) (last fuse : Int) (hl : -1000 ≤ last ∧ last ≤ 1000) (hf : -1000 ≤ fuse ∧ fuse ≤ 1000) (h0 : fuse ≠ 0) :
  MS Tryd.prog 8 (cluS 2000000 2900001 rows last fuse false) [.np 2000000 0, .agg (idK a b c), (vA (emV))] (cluS 2000000 2900001 (putR rows (idK a b c) (enA (last + 1))) (last + 1) (wrF fuse false) false) (.int .i64 0) := by
 have hw := wrong_a hi
 have hwr := write_m rows last fuse false hf
 obtain ⟨e1, e2, e3⟩ := wr_live h0
 rw [e1, e3] at hwr
 have hg := (get_m hk h).1 ho
 have ha := add_a 1
 have hp := put_m hk h last (wrF fuse false) false hl
 refine MS.enter Tryd.func8 a_cluster_Cluster_Create_ok a_cluster_Cluster_Create_cb (by rfl) (by rfl) fun E hE => ?_
 show AK _ _ _ [.c b_cluster_Cluster_Create] _ _
 rw [b_cluster_Cluster_Create]
 refine kW ?_
 refine kQ [.v (.int .i64 0)] ?_
 refine kW ?_
 refine kCf ?_
 refine kW ?_
 refine kQ [.s [2000000, 2900001] (cluS 2000000 2900001 rows last (wrF fuse false) false) (.int .i64 0)] ?_
 refine kW ?_
 refine kCf ?_
 refine kW ?_
 refine AK.weak (Weak.introN (L := [(0, .np 2000000 0), (4, .ptr 4 0), (5, .ptr 5 0)]) (BL := [(4, idK a b c, false), (5, cM, false), (2000000, cluC 2900001 last (wrF fuse false) false, false), (2900001, [mcA rows], false)]) ⟨kI, kI, kI, trivial⟩ ⟨kJ, kJ, kJ, kJ, trivial⟩ rfl rfl ⟨rfl, rfl, trivial⟩) ?_
 refine AK.rega fw0 [.s [2900001] [(2900001, [mcA rows])] (.tup [.agg zE, .bool false])] (frOf [(0, .np 2000000 0), (4, .ptr 4 0), (5, .ptr 5 0), (10, .bool false)]) ⟨boxOf [(4, idK a b c, false), (5, cM, false), (2000000, cluC 2900001 last (wrF fuse false) false, false), (2900001, [mcA rows], false)], fun _ => 0⟩ ?_ ?_
 ·(repeat' (first | exact trivial | apply And.intro))
  all_goals first | (show _ = _; exact rfl) | (show MOp _ _ _ _ _ _; exact hg) | exact Weak.introN ⟨kI, kI, kI, kI, trivial⟩ ⟨kJ, kJ, kJ, kJ, trivial⟩ rfl rfl ⟨rfl, rfl, trivial⟩
 refine kW ?_
 refine kCf ?_
 refine kW ?_
 refine kQ [.v (.int .i64 0)] ?_
 refine kW ?_
 refine kQ [.s [2000000, 2900001] (cluS 2000000 2900001 (putR rows (idK a b c) (enA (last + 1))) (last + 1) (wrF fuse false) false) (.tup [])] ?_
 refine kW ?_
 exact AK.ret ⟨⟨_, rfl, rfl⟩, ⟨_, rfl, rfl⟩, ⟨_, rfl, rfl⟩, trivial⟩
set_option maxHeartbeats 20000000 in
theorem getOk_m {rows : List MRow} {a b c : ByteArray} (hk : KeysOk Tryd.prog 31 rows) (h : KeyI a b c) (n : Int) (ho : Found rows (idK a b c) (some (enA n))) (last fuse : Int) :
  MS Tryd.prog 13 (cluS 2000000 2900001 rows last fuse false) [.np 2000000 0, .agg (idK a b c)] (cluS 2000000 2900001 rows last fuse false) (.tup [(vA (emV)), .int .i64 n, .int .i64 0]) := by
 have hg := (get_m hk h).2 n ho
 have ha := add_a 0
 have hc : AC Tryd.prog 22 [(vA (emV))] ((vA (emV))) := clone_ok emV (by decide +kernel)
 refine MS.enter Tryd.func13 a_cluster_Cluster_Get_ok a_cluster_Cluster_Get_cb (by rfl) (by rfl) fun E hE => ?_
 show AK _ _ _ [.c b_cluster_Cluster_Get] _ _
 rw [b_cluster_Cluster_Get]
 refine kW ?_
 refine kP [] ?_ ?_
 ·((repeat' apply And.intro) <;> first | exact kD | (intro hgd; refine ⟨?_, kG⟩; (repeat' apply And.intro) <;> first | exact kD | skip) | skip)
  ·exact fun g o => someClu false g o
 refine kCf ?_
 refine kW ?_
 refine kCf ?_
 refine kW ?_
 refine kQ [.v (.int .i64 0)] ?_
 refine kW ?_
 refine AK.weak (Weak.introN (L := [(0, .np 2000000 0), (3, .ptr 3 0), (4, .ptr 4 0)]) (BL := [(3, idK a b c, false), (4, zA, false), (2000000, cluC 2900001 last fuse false, false), (2900001, [mcA rows], false)]) ⟨kI, kI, kI, trivial⟩ ⟨kJ, kJ, kJ, kJ, trivial⟩ rfl rfl ⟨rfl, rfl, trivial⟩) ?_
 refine AK.rega fw0 [.s [2900001] [(2900001, [mcA rows])] (.tup [.agg (enA n), .bool true])] (frOf [(0, .np 2000000 0), (4, .ptr 4 0), (7, .ptr 7 0), (8, .bool true)]) ⟨boxOf [(4, zA, false), (7, enA n, false), (2000000, cluC 2900001 last fuse false, false), (2900001, [mcA rows], false)], fun _ => 0⟩ ?_ ?_
 ·(repeat' (first | exact trivial | apply And.intro))
  all_goals first | (show _ = _; exact rfl) | (show MOp _ _ _ _ _ _; exact hg) | exact Weak.introN ⟨kI, kI, kI, kI, trivial⟩ ⟨kJ, kJ, kJ, kJ, trivial⟩ rfl rfl ⟨rfl, rfl, trivial⟩
 refine kW ?_
 refine kCf ?_
 refine kW ?_
 refine AK.rega fw0 [.v ((vA (emV)))] (frOf [(4, .ptr 4 0), (5, .int .i64 n), (6, .int .i64 0)]) ⟨boxOf [(4, cM, false), (2000000, cluC 2900001 last fuse false, false), (2900001, [mcA rows], false)], fun _ => 0⟩ ?_ ?_
 ·(repeat' (first | exact trivial | apply And.intro))
  all_goals first | (show _ = _; exact rfl) | (show AC _ _ _ _; exact hc) | exact Weak.introN ⟨kI, kI, kI, trivial⟩ ⟨kJ, kJ, kJ, trivial⟩ rfl rfl ⟨rfl, rfl, trivial⟩
 refine kW ?_
 exact AK.ret ⟨⟨_, rfl, rfl⟩, ⟨_, rfl, rfl⟩, ⟨_, rfl, rfl⟩, trivial⟩
set_option maxHeartbeats 20000000 in
theorem patch_m {rows : List MRow} {a b c : ByteArray} (hk : KeysOk Tryd.prog 31 rows) (h : KeyI a b c) (hi : idOk a b c) (n v : Int) (ho : Found rows (idK a b c) (some (enA n))) (last fuse : Int) (hl : -1000 ≤ last ∧ last ≤ 1000) (hf : -1000 ≤ fuse ∧ fuse ≤ 1000) (h0 : fuse ≠ 0) :
  MS Tryd.prog 15 (cluS 2000000 2900001 rows last fuse false) [.np 2000000 0, .agg (idK a b c), .int .i64 v, (vA (emV))] (if n = v then cluS 2000000 2900001 (putR rows (idK a b c) (enA (last + 1))) (last + 1) (wrF fuse false) false else cluS 2000000 2900001 rows last (wrF fuse false) false) (.int .i64 (if n = v then 0 else 32)) := by
 have hw := wrong_a hi
 have hwr := write_m rows last fuse false hf
 obtain ⟨e1, e2, e3⟩ := wr_live h0
 rw [e1, e3] at hwr
 have hg := (get_m hk h).2 n ho
 have ha := add_a 2
 have hp := put_m hk h last (wrF fuse false) false hl
 refine MS.enter Tryd.func15 a_cluster_Cluster_Patch_ok a_cluster_Cluster_Patch_cb (by rfl) (by rfl) fun E hE => ?_
 show AK _ _ _ [.c b_cluster_Cluster_Patch] _ _
 rw [b_cluster_Cluster_Patch]
 refine kW ?_
 refine kQ [.v (.int .i64 0)] ?_
 refine kW ?_
 refine kCf ?_
 refine kW ?_
 refine kQ [.s [2000000, 2900001] (cluS 2000000 2900001 rows last (wrF fuse false) false) (.int .i64 0)] ?_
 refine kW ?_
 refine kCf ?_
 refine kW ?_
 refine AK.weak (Weak.introN (L := [(0, .np 2000000 0), (2, .int .i64 v), (5, .ptr 5 0), (7, .ptr 7 0)]) (BL := [(5, idK a b c, false), (7, cM, false), (2000000, cluC 2900001 last (wrF fuse false) false, false), (2900001, [mcA rows], false)]) ⟨kI, kI, kI, kI, trivial⟩ ⟨kJ, kJ, kJ, kJ, trivial⟩ rfl rfl ⟨rfl, rfl, trivial⟩) ?_
 refine AK.rega fw0 [.s [2900001] [(2900001, [mcA rows])] (.tup [.agg (enA n), .bool true])] (frOf [(0, .np 2000000 0), (2, .int .i64 v), (5, .ptr 5 0), (7, .ptr 7 0), (11, .ptr 11 0), (12, .bool true)]) ⟨boxOf [(5, idK a b c, false), (7, cM, false), (11, enA n, false), (2000000, cluC 2900001 last (wrF fuse false) false, false), (2900001, [mcA rows], false)], fun _ => 0⟩ ?_ ?_
 ·(repeat' (first | exact trivial | apply And.intro))
  all_goals first | (show _ = _; exact rfl) | (show MOp _ _ _ _ _ _; exact hg) | exact Weak.introN ⟨kI, kI, kI, kI, kI, kI, trivial⟩ ⟨kJ, kJ, kJ, kJ, kJ, trivial⟩ rfl rfl ⟨rfl, rfl, trivial⟩
 refine kW ?_
 refine kCf ?_
 refine kW ?_
 refine kC (fun hb => ?_) fun hb => ?_
 ·have hn : ¬ n = v := by simpa using hb
  rw [if_neg hn, if_neg hn]
  refine kW ?_
  exact AK.ret ⟨⟨_, rfl, rfl⟩, ⟨_, rfl, rfl⟩, ⟨_, rfl, rfl⟩, trivial⟩
 ·have hn : n = v := by simpa using hb
  rw [if_pos hn, if_pos hn]
  refine kW ?_
  refine kQ [.v (.int .i64 0)] ?_
  refine kW ?_
  refine kQ [.s [2000000, 2900001] (cluS 2000000 2900001 (putR rows (idK a b c) (enA (last + 1))) (last + 1) (wrF fuse false) false) (.tup [])] ?_
  refine kW ?_
  exact AK.ret ⟨⟨_, rfl, rfl⟩, ⟨_, rfl, rfl⟩, ⟨_, rfl, rfl⟩, trivial⟩
theorem new_m : MS Tryd.prog 6 [] [npC] [(6, cluC 1900101 0 (-1) false), (1900101, [mcA []])] (.np 6 0) := by
 have hn : MOp Tryd.prog (.new 46) [] [] [(1900101, [mcA []])] (.np 1900101 0) := mop_new rfl
 refine MS.enter Tryd.func6 a_cluster_New_ok a_cluster_New_cb (by rfl) (by rfl) fun E hE => ?_
 show AK _ _ _ [.c b_cluster_New] _ _
 rw [b_cluster_New]
 refine kW ?_
 refine kQ [.s [] [(1900101, [mcA []])] (.np 1900101 0)] ?_
 refine AK.weak (Weak.introN (L := [(2, .ptr 6 0)]) (BL := [(6, cluC 1900101 0 (-1) false, false), (1900101, [mcA []], false)]) ⟨kI, trivial⟩ ⟨⟨_, rfl, .refl _, .refl _, .any .nil 1 [], .refl _, .refl _, .refl _, trivial⟩, kJ, trivial⟩ rfl rfl ⟨rfl, trivial⟩) ?_
 exact AK.ret ⟨⟨_, rfl, rfl⟩, ⟨_, rfl, rfl⟩, ⟨_, rfl, rfl⟩, trivial⟩
def rhoC (i : Nat) : Nat := if i = 2000000 then 1000100 else if i = 1000100 then 2000000 else if i = 2900001 then 1900101 else if i = 1900101 then 2900001 else i
theorem rhoC_inj (i j : Nat) (h : rhoC i = rhoC j) : i = j := by
 unfold rhoC at h
 repeat' split at h
 all_goals omega
theorem rhoC_mp (i : Nat) : isMp (rhoC i) = isMp i := by
 unfold rhoC
 repeat' split
 all_goals first | (subst_vars; rfl) | rfl
def rhoN (i : Nat) : Nat := if i = 6 then 1000100 else if i = 1000100 then 6 else i
theorem rhoN_inj (i j : Nat) (h : rhoN i = rhoN j) : i = j := by
 unfold rhoN at h
 repeat' split at h
 all_goals omega
theorem rhoN_mp (i : Nat) : isMp (rhoN i) = isMp i := by
 unfold rhoN
 repeat' split
 all_goals first | (subst_vars; rfl) | rfl
theorem new_a : MS Tryd.prog 6 [] [npC] (cluS 1000100 1900101 [] 0 (-1) false) (.np 1000100 0) := new_m.ren rhoN rhoN_inj rhoN_mp
theorem putR_nil (κ vc : List AV) : putR [] κ vc = [(κ, vc)] := by
 unfold putR
 rw [if_neg (by simp)]
 rfl
theorem putR_one (κ vc wc : List AV) : putR [(κ, vc)] κ wc = [(κ, wc)] := by
 unfold putR
 rw [if_pos ⟨_, List.mem_singleton.2 rfl, rfl⟩]
 simp
theorem keysOk_nil : KeysOk Tryd.prog 31 [] := fun r h => by cases h
theorem keysOk_one {a b c : ByteArray} (h : KeyI a b c) (vc : List AV) : KeysOk Tryd.prog 31 [(idK a b c, vc)] := fun r hr => by
 rw [List.mem_singleton.1 hr]
 obtain ⟨l, hl⟩ := h
 exact ⟨_, l, keyV_id a b c, hl⟩
theorem keyA : KeyI ⟨#[65]⟩ ⟨#[98]⟩ ⟨#[99]⟩ := by
 have h : (keyOf Tryd.prog 31 (.agg #[.string ⟨#[65]⟩, .string ⟨#[98]⟩, .string ⟨#[99]⟩])).isSome = true := by kernel_rfl
 exact Option.isSome_iff_exists.1 h
theorem okA : idOk ⟨#[65]⟩ ⟨#[98]⟩ ⟨#[99]⟩ := by
 refine ⟨by decide +kernel, by decide, by decide, by decide⟩
abbrev kA0 : List AV := idK ⟨#[65]⟩ ⟨#[98]⟩ ⟨#[99]⟩
theorem awakeCl_a : AC Tryd.prog 5 [] (.bool true) := by
 have hM : AC Tryd.prog 9 [.lst .any 7 []] ((vA (emV))) := treeMap_a [] (by decide +kernel)
 have hN := new_a
 have hC : MS Tryd.prog 8 (cluS 1000100 1900101 [] 0 (-1) false) [.np 1000100 0, .agg kA0, (vA (emV))] (cluS 1000100 1900101 [(kA0, enA 1)] 1 (-1) false) (.int .i64 0) := by
  have h := create_m keysOk_nil keyA okA (rows := []) (fun r hr => by cases hr) 0 (-1) (by omega) (by omega) (by omega)
  rw [putR_nil] at h
  exact h.ren rhoC rhoC_inj rhoC_mp
 have hG : MS Tryd.prog 13 (cluS 1000100 1900101 [(kA0, enA 1)] 1 (-1) false) [.np 1000100 0, .agg kA0] (cluS 1000100 1900101 [(kA0, enA 1)] 1 (-1) false) (.tup [(vA (emV)), .int .i64 1, .int .i64 0]) := by
  exact (getOk_m (keysOk_one keyA _) keyA 1 (List.mem_singleton.2 rfl) 1 (-1)).ren rhoC rhoC_inj rhoC_mp
 have hP : MS Tryd.prog 15 (cluS 1000100 1900101 [(kA0, enA 1)] 1 (-1) false) [.np 1000100 0, .agg kA0, .int .i64 1, (vA (emV))] (cluS 1000100 1900101 [(kA0, enA 2)] 2 (-1) false) (.int .i64 0) := by
  have h := patch_m (keysOk_one keyA (enA 1)) keyA okA 1 1 (List.mem_singleton.2 rfl) 1 (-1) (by omega) (by omega) (by omega)
  rw [putR_one, if_pos rfl, if_pos rfl] at h
  exact h.ren rhoC rhoC_inj rhoC_mp
 have hQ : MS Tryd.prog 15 (cluS 1000100 1900101 [(kA0, enA 2)] 2 (-1) false) [.np 1000100 0, .agg kA0, .int .i64 1, (vA (emV))] (cluS 1000100 1900101 [(kA0, enA 2)] 2 (-1) false) (.int .i64 32) := by
  have h := patch_m (keysOk_one keyA (enA 2)) keyA okA 2 1 (List.mem_singleton.2 rfl) 2 (-1) (by omega) (by omega) (by omega)
  rw [if_neg (by omega), if_neg (by omega)] at h
  exact h.ren rhoC rhoC_inj rhoC_mp
 refine kE Tryd.func5 a_law16_awake_ok a_law16_awake_cb fun E hE => ?_
 refine kW ?_
 refine kQ [.s [] (cluS 1000100 1900101 [] 0 (-1) false) (.np 1000100 0)] ?_
 refine kW ?_
 refine kQ [.v ((vA (emV))), .s [1000100, 1900101] (cluS 1000100 1900101 [(kA0, enA 1)] 1 (-1) false) (.int .i64 0)] ?_
 refine kW ?_
 refine kQ [.s [1000100, 1900101] (cluS 1000100 1900101 [(kA0, enA 1)] 1 (-1) false) (.tup [(vA (emV)), .int .i64 1, .int .i64 0])] ?_
 refine AK.weak (Weak.introN (L := [(1, .np 1000100 0), (2, .ptr 2 0), (3, .int .i64 0), (5, .int .i64 1), (6, .int .i64 0)]) (BL := [(2, kA0, false), (1000100, cluC 1900101 1 (-1) false, false), (1900101, [mcA [(kA0, enA 1)]], false)]) ⟨kI, kI, kI, kI, kI, trivial⟩ ⟨kJ, kJ, kJ, trivial⟩ rfl rfl ⟨rfl, rfl, trivial⟩) ?_
 refine kW ?_
 refine kQ [.v ((vA (emV))), .s [1000100, 1900101] (cluS 1000100 1900101 [(kA0, enA 2)] 2 (-1) false) (.int .i64 0), .v ((vA (emV))), .s [1000100, 1900101] (cluS 1000100 1900101 [(kA0, enA 2)] 2 (-1) false) (.int .i64 32)] ?_
 refine kW ?_
 refine AK.ret ⟨_, rfl, ?_⟩
 rfl
end Go.Proofs.YtdncaodccgfniaaDoor
namespace Go.Proofs.YtdncaodccgfniaaDoor
open Go.RowKit
theorem obI_step {has la lb done : List CEnt} {e : CEnt} {cap m cap' m' : Nat} (h : obI has (la ++ e :: lb, done, cap, m)) (hc : (rowsO (done.map obE) ++ [obC (obE e)]).length ≤ cap') (hl : ((rowsO (done.map obE) ++ [obC (obE e)]).flatten ++ List.replicate m' AV.top).length = cap' * 9) : obI has (la ++ lb, done ++ [e], cap', m') := by
 obtain ⟨h1, h2, h3⟩ := h
 refine ⟨?_, ?_, fun _ => ?_⟩
 ·refine List.Perm.trans ?_ h1
  simp only
  rw [List.append_assoc, List.append_assoc]
  refine List.Perm.append_left _ ?_
  rw [List.cons_append, ← List.append_assoc]
  exact List.perm_append_singleton _ _
 ·simp only [List.length_append, List.length_cons, List.length_nil, rowsO_len, List.length_map] at hc ⊢
  omega
 ·simp only [List.map_append, List.map_cons, List.map_nil]
  rw [rowsO_snoc]
  exact hl
theorem rowsE_append (a b : List CEnt) : rowsE a ++ rowsE b = rowsE (a ++ b) := by unfold rowsE; rw [List.map_append]
theorem noFrs_rowsO (l : List Ob) (m : Nat) : ((rowsO l).flatten ++ List.replicate m AV.top).all AV.noFrs = true := by
 rw [List.all_eq_true]
 intro c hc
 rcases List.mem_append.1 hc with hc | hc
 ·obtain ⟨r, hr, hcr⟩ := List.mem_flatten.1 hc
  obtain ⟨o, _, rfl⟩ := List.mem_map.1 hr
  have := obC_clean o c hcr
  cases c <;> first | rfl | cases this
 ·rw [(List.mem_replicate.1 hc).2]; rfl
theorem clean_inS {a : AV} (h : a.clean = true) (ids : List Nat) : a.inS ids = true := by
 cases a with
 | lst t e l => cases t <;> first | rfl | cases h
 | _ => first | rfl | cases h
theorem map_clean {g : AV → AV} (hg : ∀ a : AV, a.clean = true → g a = a) (l : List Ob) (m : Nat) : ((rowsO l).flatten ++ List.replicate m AV.top).map g = (rowsO l).flatten ++ List.replicate m AV.top := by
 rw [show ((rowsO l).flatten ++ List.replicate m AV.top).map g = ((rowsO l).flatten ++ List.replicate m AV.top).map id from List.map_congr_left fun c hc => ?_, List.map_id]
 rcases List.mem_append.1 hc with hc | hc
 ·obtain ⟨r, hr, hcr⟩ := List.mem_flatten.1 hc
  obtain ⟨o, _, rfl⟩ := List.mem_map.1 hr
  exact hg c (obC_clean o c hcr)
 ·rw [(List.mem_replicate.1 hc).2]; exact hg _ rfl
theorem clean_told {a : AV} (h : a.clean = true) : a.told = a := by
 cases a with
 | lst t e l => cases t <;> first | rfl | cases h
 | _ => first | rfl | cases h
theorem clean_clr {a : AV} (N : List Nat) (h : a.clean = true) : clrC N a = a := by
 cases a with
 | lst t e l => rfl
 | _ => first | rfl | cases h
theorem clean_ren {a : AV} (ρ : Nat → Nat) (h : a.clean = true) : a.ren ρ = a := by
 cases a with
 | lst t e l => rfl
 | _ => first | rfl | cases h
theorem inS_rowsO (l : List Ob) (m : Nat) (ids : List Nat) : ((rowsO l).flatten ++ List.replicate m AV.top).all (AV.inS ids) = true := by
 rw [List.all_eq_true]
 intro c hc
 rcases List.mem_append.1 hc with hc | hc
 ·obtain ⟨r, hr, hcr⟩ := List.mem_flatten.1 hc
  obtain ⟨o, _, rfl⟩ := List.mem_map.1 hr
  have := obC_clean o c hcr
  exact clean_inS this ids
 ·rw [(List.mem_replicate.1 hc).2]; rfl
theorem ren_rowsO (ρ : Nat → Nat) (l : List Ob) (m : Nat) : ((rowsO l).flatten ++ List.replicate m AV.top).map (AV.ren ρ) = (rowsO l).flatten ++ List.replicate m AV.top := map_clean (fun a h => clean_ren ρ h) l m
theorem okS_row {cs : List AV} (h : cs.all (AV.inS [1000001]) = true) (b : Nat → Option (List AV × Bool)) : (okS [1000001] [(1000001, cs)] (.tup []) && freeIds b (newIds [1000001] [(1000001, cs)])) = true := by
 unfold okS
 show ((true && (cs.all (AV.inS [1000001]) && true)) && true && true) = true
 rw [h]
 rfl
theorem sortO_mr (l : List Ob) (hnd : (l.map obId).Nodup) (hlen : l.length ≤ 1000000) (cap m : Nat) (hcap : l.length ≤ cap) (hz : ((rowsO l).flatten ++ List.replicate m AV.top).length = cap * 9) :
  MS Tryd.prog 24 [(1000001, (rowsO l).flatten ++ List.replicate m AV.top)] [.sli 1000001 9 l.length cap, .fn 25 []] [(1000001, (rowsO (sortO l)).flatten ++ List.replicate m AV.top)] (.tup []) := by
 have h := (sortO_ms l hnd hlen cap m hcap hz).ren rhoO rhoO_inj rhoO_mp
 unfold renS at h
 simp only [List.map_cons, List.map_nil, ren_rowsO] at h
 exact h
set_option maxHeartbeats 20000000 in
theorem objects_m (cl : Clu) (hok : CluOk cl) : MS Tryd.prog 10 (cluX 2000000 2900001 cl) [.np 2000000 0] (cluX 2000000 2900001 cl) (.lst .any 9 (rowsO cl.objects)) := by
 obtain ⟨has, last, fails, fuse, down⟩ := cl
 obtain ⟨hnd, hsz, hlen⟩ := hok
 dsimp only at hnd hsz hlen
 refine MS.enter Tryd.func10 a_cluster_Cluster_Objects_ok a_cluster_Cluster_Objects_cb (by rfl) (by rfl) fun E hE => ?_
 show AK _ _ _ [.c b_cluster_Cluster_Objects] _ _
 rw [b_cluster_Cluster_Objects]
 refine kS ?_
 refine kA fw0 ?_
 refine kS ?_
 refine kS ?_
 refine kP [] ?_ ?_
 ·(repeat' apply And.intro) <;> first | exact fun g o => someClu false g o | exact kD
 refine kCf ?_
 (repeat (first | refine kA fw0 ?_ | (apply kS; refine kA fw0 ?_) | apply kN | apply kB | apply kL))
 refine kS ?_
 refine AK.mrange 2900001 (rowsE has) (cluX 2000000 2900001 ⟨has, last, fails, fuse, down⟩) [] obJ (obI has) (fun i => rowsE i.1) (has, [], 0, 0) ?_ ?_ rfl ?_ ?_ ?_ ?_ ?_ ?_ ?_ ?_
 ·(repeat' apply And.intro) <;> exact kD
 ·exact ⟨by simp, by simp, fun h => absurd rfl h⟩
 ·intro x hx
  rcases List.mem_cons.1 hx with rfl | hx
  ·rfl
  ·rw [List.mem_singleton.1 hx]; rfl
 ·intro x hx
  rcases List.mem_cons.1 hx with rfl | hx
  ·show 1000000 ≤ 2000000; omega
  ·rw [List.mem_singleton.1 hx]; show 1000000 ≤ 2900001; omega
 ·intro x hx c hc
  rcases List.mem_cons.1 hx with rfl | hx
  ·simp at hc
   rcases hc with rfl | rfl | rfl | rfl | rfl | rfl <;> rfl
  ·rw [List.mem_singleton.1 hx] at hc
   rw [List.mem_singleton.1 hc]
   rfl
 ·exact List.mem_cons_of_mem _ (List.mem_singleton.2 rfl)
 ·intro r
  exact Weak.introN (L := [(3, .lst .nil 9 []), (12, itA r)]) (BL := []) ⟨kI, kI, trivial⟩ trivial rfl rfl trivial
 ·intro r ⟨left, done, cap, m⟩
  cases done <;> rfl
 ·intro E2 r ⟨left, done, cap, m⟩ la row lb hE2 hI hL hent
  obtain ⟨la', e, lb', rfl, rfl, rfl, rfl⟩ := rowsE_split hL
  have hez : e.body.size ≤ 1000000 := hsz e (hI.1.mem_iff.1 (by simp))
  have hdl : done.length ≤ 1000000 := by have := hI.1.length_eq; simp at this; omega
  have hcl : AC Tryd.prog 22 [(vA (e.body))] ((vA (e.body))) := clone_ok e.body (by omega)
  have hnew : ∀ cap m, (rowsO (done.map obE) ++ [obC (obE e)]).length ≤ cap → ((rowsO (done.map obE) ++ [obC (obE e)]).flatten ++ List.replicate m AV.top).length = cap * 9 → obI has (la' ++ lb', done ++ [e], cap, m) := fun cap' m' h1 h2 => obI_step hI h1 h2
  cases done with
  | nil =>
   refine ⟨[], _, _, _, _, rfl, trivial, ?_⟩
   refine kS ?_
   refine kCt ?_
   refine kN ?_
   refine kB ?_
   refine kS ?_
   refine AK.ent (rs := []) hent rfl rfl ?_ ?_
   ·(repeat' apply And.intro) <;> exact kD
   refine kP [.v ((vA (e.body))), .m [] []] ?_ ?_
   ·(repeat' apply And.intro) <;> first | exact hcl | exact kD
   refine kL ?_
   refine AK.nil ?_
   refine MQ_open 3 25 1000001 rfl (by omega) rfl fun cap' m' h1 h2 => ⟨(la' ++ lb', [e], cap', m'), hnew cap' m' h1 h2, by rw [rowsE_append], ?_⟩
   exact Weak.introN (L := [(3, .sli 1000001 9 1 cap'), (12, itA r)]) (BL := [(1000001, (rowsO ([e].map obE)).flatten ++ List.replicate m' AV.top, false)]) ⟨kI, kI, trivial⟩ ⟨kJ, trivial⟩ rfl rfl ⟨noFrs_rowsO _ _, trivial⟩
  | cons d ds =>
   refine ⟨[], _, _, _, _, rfl, trivial, ?_⟩
   refine kS ?_
   refine kCt ?_
   refine kN ?_
   refine kB ?_
   refine kS ?_
   refine AK.ent (rs := []) hent rfl rfl ?_ ?_
   ·(repeat' apply And.intro) <;> exact kD
   have hz := hI.2.2 (by simp)
   dsimp only at hz
   have hol : (rowsO ((d :: ds).map obE)).length = ds.length + 1 := by rw [rowsO_len, List.length_map]; rfl
   refine kP [.v ((vA (e.body))), .m (rowsO ((d :: ds).map obE)) []] ?_ ?_
   ·(repeat' apply And.intro) <;> first | exact hcl | exact kD | exact ⟨_, rfl⟩ | exact hz | exact (rowsO_ok _).2 | exact (rowsO_ok _).1 | exact hol.symm | (rw [hol]; simp only [List.length_cons, List.length_nil] at *; omega)
   refine kL ?_
   refine AK.nil ?_
   refine MQ_open 3 25 1000001 rfl (by omega) rfl fun cap' m' h1 h2 => ⟨(la' ++ lb', d :: ds ++ [e], cap', m'), hnew cap' m' h1 h2, by rw [rowsE_append], ?_⟩
   refine Weak.introN (L := [(3, .sli 1000001 9 ((ds ++ [e]).length + 1) cap'), (12, itA r)]) (BL := [(1000001, (rowsO ((d :: (ds ++ [e])).map obE)).flatten ++ List.replicate m' AV.top, false)]) ⟨⟨_, rfl, .of_eq ?_⟩, kI, trivial⟩ ⟨⟨_, rfl, leL_of_eq ?_⟩, trivial⟩ rfl rfl ⟨noFrs_rowsO _ _, trivial⟩
   ·show AV.sli 1000001 9 (rowsO ((d :: ds).map obE) ++ [obC (obE e)]).length cap' = _
    rw [List.length_append, hol, List.length_append]
    rfl
   ·show (rowsO ((d :: ds).map obE) ++ [obC (obE e)]).flatten ++ List.replicate m' AV.top = _
    rw [← rowsO_snoc, show d :: (ds ++ [e]) = (d :: ds) ++ [e] from rfl, List.map_append]
    rfl
 ·intro E2 r ⟨left, done, cap, m⟩ hE2 hI hL
  have hl : left = [] := by
   unfold rowsE at hL
   exact List.map_eq_nil_iff.1 hL
  subst hl
  have hperm : done.Perm has := by have := hI.1; simpa using this
  have hobj : sortO (done.map obE) = sortO (has.map obE) := sortO_one (obE_nd ((hperm.map _).nodup_iff.2 hnd)) (hperm.map obE)
  cases done with
  | nil =>
   refine ⟨[], _, _, _, _, rfl, trivial, ?_⟩
   refine kS ?_
   refine kCf ?_
   refine AK.exitMQ ?_
   refine kW ?_
   have hsn := sortNil_a (.fn 25 []) rfl
   refine kQ [.v (.tup [])] ?_
   refine kW ?_
   have ho : rowsO (Clu.objects ⟨has, last, fails, fuse, down⟩) = [] := by
    unfold Clu.objects
    rw [← hobj]
    unfold sortO
    rw [List.map_nil, List.mergeSort_nil]
    rfl
   rw [ho]
   refine AK.ret ⟨⟨_, rfl, rfl⟩, ⟨_, rfl, rfl⟩, ⟨_, rfl, rfl⟩, trivial⟩
  | cons d ds =>
   refine ⟨[], _, _, _, _, rfl, trivial, ?_⟩
   refine kS ?_
   refine kCf ?_
   refine AK.exitMQ ?_
   have hz := hI.2.2 (by simp)
   have hcp := hI.2.1
   dsimp only at hz hcp
   have hol : ((d :: ds).map obE).length = ds.length + 1 := by simp
   have hsl : (sortO ((d :: ds).map obE)).length = ds.length + 1 := by rw [(sortO_perm _).length_eq]; exact hol
   have hdl : ds.length + 1 ≤ 1000000 := by have := hperm.length_eq; simp at this; omega
   have hS := sortO_mr ((d :: ds).map obE) (obE_nd ((hperm.map _).nodup_iff.2 hnd)) (by rw [hol]; exact hdl) cap m (by rw [hol]; simpa using hcp) hz
   have hC := RowCs.mk_ (rowsO_ok (sortO ((d :: ds).map obE))) (cap := cap) (m := m) (by rw [rowsO_len, hsl]; simpa using hcp) (by
    rw [List.length_append, rowsO_flen, hsl]
    rw [List.length_append, rowsO_flen, hol] at hz
    exact hz)
   have hok := okS_row (inS_rowsO (sortO ((d :: ds).map obE)) m [1000001])
   rw [hol] at hS
   refine AK.weak (Weak.introN (L := [(3, .sli 1000001 9 (ds.length + 1) cap)]) (BL := [(1000001, (rowsO ((d :: ds).map obE)).flatten ++ List.replicate m AV.top, false), (2000000, [.np 2900001 0, .int .i64 last, .lst .any 1 [], .int .i64 fuse, .bool down, npC], false), (2900001, [mcA (rowsE has)], false)]) ⟨kI, trivial⟩ ⟨⟨_, rfl, leL_of_eq (map_clean (fun a h => clean_clr _ h) _ m)⟩, kJ, kJ, trivial⟩ rfl rfl ⟨noFrs_rowsO _ _, rfl, rfl, trivial⟩) ?_
   refine kW ?_
   refine kP [.s [1000001] [(1000001, (rowsO (sortO ((d :: ds).map obE))).flatten ++ List.replicate m AV.top)] (.tup [])] ?_ ?_
   ·(repeat' apply And.intro) <;> first | exact hS | exact hok _ | (rw [map_clean (fun a h => clean_told h)]; exact hS) | exact kD
   refine kW ?_
   refine AK.fz 1000001 rfl ?_
   refine AK.weak (Weak.introN (L := [(2, .lst .any 9 (rowsO (sortO ((d :: ds).map obE))))]) (BL := [(2000000, [.np 2900001 0, .int .i64 last, .lst .any 1 [], .int .i64 fuse, .bool down, npC], false), (2900001, [mcA (rowsE has)], false)]) ⟨⟨_, rfl, ?_⟩, trivial⟩ ⟨kJ, kJ, trivial⟩ rfl rfl ⟨rfl, rfl, trivial⟩) ?_
   ·show AVle _ (.sli 1000001 9 (ds.length + 1) cap) _
    have hn : ds.length + 1 = (rowsO (sortO ((d :: ds).map obE))).length := by rw [rowsO_len, hsl]
    rw [hn]
    exact .one (hC.le rfl)
   have ho : rowsO (Clu.objects ⟨has, last, fails, fuse, down⟩) = rowsO (sortO ((d :: ds).map obE)) := by
    unfold Clu.objects
    rw [← hobj]
   rw [ho]
   exact AK.ret ⟨⟨_, rfl, rfl⟩, ⟨_, rfl, rfl⟩, ⟨_, rfl, rfl⟩, trivial⟩
end Go.Proofs.YtdncaodccgfniaaDoor
