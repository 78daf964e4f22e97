/-
  The texts that the claim wants, one behind the other: part 33.
-/
import Derived.Test.YtdncaodccgfniaaDoorS32
set_option linter.unusedSimpArgs false
set_option linter.unusedVariables false
namespace Go.Proofs.YtdncaodccgfniaaDoor
open Go.RowKit Go.Maps Go.MapKept Go.ChangeMaps
set_option maxHeartbeats 20000000 in
theorem create_g (cl : Clu) (hk : CluK cl) {i : OId} (hi : KeyI i.k i.s i.n) (v : V) (hv : v.size ≤ 1000000) (wr : Int) (hw : AC Tryd.prog 16 [.agg (idA i), (vA (v))] (.int .i64 wr)) :
  MS Tryd.prog 8 (cluX 2000000 2900001 cl) [.np 2000000 0, .agg (idA i), (vA (v))] (cluX 2000000 2900001 (cl.create wr i v).2) (.int .i64 (cl.create wr i v).1) := by
 have hwr := write_g cl hk
 have hk2 := hk.write
 have hf2 : cl.write.2.find i = cl.find i := by unfold Clu.find; rw [(write_has cl).1]
 unfold Clu.create
 refine MS.enter Tryd.func8 a_cluster_Cluster_Create_ok a_cluster_Cluster_Create_cb (by rfl) (by rfl) fun E hE => ?_
 show AK _ _ _ [.c b_cluster_Cluster_Create] _ _
 rw [b_cluster_Cluster_Create]
 refine kW ?_
 refine kQ [.v (.int .i64 wr)] ?_
 refine kW ?_
 refine kC (fun hb => ?_) fun hb => ?_
 ·have h1 : wr ≠ 0 := by simpa using hb
  rw [if_pos h1]
  refine kW ?_
  exact AK.ret ⟨⟨_, rfl, rfl⟩, ⟨_, rfl, rfl⟩, ⟨_, rfl, rfl⟩, trivial⟩
 have h1 : ¬ wr ≠ 0 := by simpa using hb
 rw [if_neg h1]
 clear hb h1
 refine kW ?_
 refine kQ [.s [2000000, 2900001] (cluX 2000000 2900001 cl.write.2) (.int .i64 cl.write.1)] ?_
 refine kW ?_
 refine kC (fun hb => ?_) fun hb => ?_
 ·have h1 : cl.write.1 ≠ 0 := by simpa using hb
  rw [if_pos h1]
  refine kW ?_
  exact AK.ret ⟨⟨_, rfl, rfl⟩, ⟨_, rfl, rfl⟩, ⟨_, rfl, rfl⟩, trivial⟩
 have h1 : ¬ cl.write.1 ≠ 0 := by simpa using hb
 rw [if_neg h1, ← hf2]
 clear hb h1 hwr hf2
 generalize cl.write.2 = c2 at *
 have ha := add_a 1
 have hp := put_g c2 hk2 hi v hv
 refine kW ?_
 refine AK.weak (Weak.introN (L := [(0, .np 2000000 0), (4, .ptr 4 0), (5, .ptr 5 0)]) (BL := [(4, idA i, false), (5, (vC (v)), false), (2000000, [.np 2900001 0, .int .i64 c2.last, .lst .any 1 [], .int .i64 c2.fuse, .bool c2.down, npC], false), (2900001, [mcA (rowsE c2.has)], false)]) ⟨kI, kI, kI, trivial⟩ ⟨kJ, kJ, kJ, kJ, trivial⟩ rfl rfl ⟨rfl, rfl, trivial⟩) ?_
 cases hfd : c2.find i with
 | some e =>
  have hg := getS_g c2 hk2 hi hfd
  refine AK.rega fw0 [.s [2900001] [(2900001, [mcA (rowsE c2.has)])] (.tup [.agg (enV e.body e.ver), .bool true])] (frOf [(10, .bool true)]) ⟨boxOf [(2000000, [.np 2900001 0, .int .i64 c2.last, .lst .any 1 [], .int .i64 c2.fuse, .bool c2.down, npC], false), (2900001, [mcA (rowsE c2.has)], false)], fun _ => 0⟩ ?_ ?_
  ·(repeat' (first | exact trivial | apply And.intro))
   all_goals first | (show _ = _; exact rfl) | (show MOp _ _ _ _ _ _; exact hg) | exact Weak.introN ⟨kI, trivial⟩ ⟨kJ, kJ, trivial⟩ rfl rfl ⟨rfl, rfl, trivial⟩
  refine kW ?_
  refine kCt ?_
  refine kW ?_
  exact AK.ret ⟨⟨_, rfl, rfl⟩, ⟨_, rfl, rfl⟩, ⟨_, rfl, rfl⟩, trivial⟩
 | none =>
  have hg := getN_g c2 hk2 hi hfd
  refine AK.rega fw0 [.s [2900001] [(2900001, [mcA (rowsE c2.has)])] (.tup [.agg zE, .bool false])] (frOf [(0, .np 2000000 0), (4, .ptr 4 0), (5, .ptr 5 0), (10, .bool false)]) ⟨boxOf [(4, idA i, false), (5, (vC (v)), false), (2000000, [.np 2900001 0, .int .i64 c2.last, .lst .any 1 [], .int .i64 c2.fuse, .bool c2.down, npC], false), (2900001, [mcA (rowsE c2.has)], false)], fun _ => 0⟩ ?_ ?_
  ·(repeat' (first | exact trivial | apply And.intro))
   all_goals first | (show _ = _; exact rfl) | (show MOp _ _ _ _ _ _; exact hg) | exact Weak.introN ⟨kI, kI, kI, kI, trivial⟩ ⟨kJ, kJ, kJ, kJ, trivial⟩ rfl rfl ⟨rfl, rfl, trivial⟩
  refine kW ?_
  refine kCf ?_
  refine kW ?_
  refine kQ [.v (.int .i64 0)] ?_
  refine kW ?_
  refine kQ [.s [2000000, 2900001] (cluX 2000000 2900001 (c2.put i v)) (.tup [])] ?_
  refine kW ?_
  exact AK.ret ⟨⟨_, rfl, rfl⟩, ⟨_, rfl, rfl⟩, ⟨_, rfl, rfl⟩, trivial⟩
def Clu.get (cl : Clu) (i : OId) : V × Int × Int := if cl.down = true then (V.null, 0, 31) else match cl.find i with
 | none => (V.null, 0, 3)
 | some e => (e.body, e.ver, 0)
abbrev nullC : List AV := [.int .i64 0, .bool false, .int .i64 0, .str ⟨#[]⟩, .lst .any 6 [], .lst .any 7 []]
set_option maxHeartbeats 20000000 in
theorem get_g (cl : Clu) (hk : CluK cl) {i : OId} (hi : KeyI i.k i.s i.n) :
  MS Tryd.prog 13 (cluX 2000000 2900001 cl) [.np 2000000 0, .agg (idA i)] (cluX 2000000 2900001 cl) (.tup [(vA ((cl.get i).1)), .int .i64 (cl.get i).2.1, .int .i64 (cl.get i).2.2]) := by
 have ha := add_a 0
 have hsz := hk.ok.size
 have hng := fun h => getN_g cl hk hi h
 have hsg := fun e h => getS_g cl hk hi (e := e) h
 unfold Clu.get
 obtain ⟨has, last, fails, fuse, down⟩ := cl
 refine MS.enter Tryd.func13 a_cluster_Cluster_Get_ok a_cluster_Cluster_Get_cb (by rfl) (by rfl) fun E hE => ?_
 show AK _ _ _ [.c b_cluster_Cluster_Get] _ _
 rw [b_cluster_Cluster_Get]
 refine kW ?_
 refine kP [] ?_ ?_
 ·((repeat' apply And.intro) <;> first | exact kD | (intro hgd; refine ⟨?_, kG⟩; (repeat' apply And.intro) <;> first | exact kD | skip) | skip)
  ·exact fun g o => someClu false g o
 refine kCf ?_
 refine kW ?_
 cases down with
 | true =>
  refine kCt ?_
  refine kS ?_
  refine kA fw0 ?_
  refine AK.weak (Weak.introN (L := [(4, .ptr 4 0), (5, .int .i64 0), (6, .int .i64 31)]) (BL := [(4, nullC, false), (2000000, [.np 2900001 0, .int .i64 last, .lst .any 1 [], .int .i64 fuse, .bool true, npC], false), (2900001, [mcA (rowsE has)], false)]) ⟨kI, kI, kI, trivial⟩ ⟨⟨_, rfl, .refl _, .refl _, .refl _, .refl _, .any .nil 6 [], .any .nil 7 [], trivial⟩, kJ, kJ, trivial⟩ rfl rfl ⟨rfl, rfl, trivial⟩) ?_
  exact AK.ret ⟨⟨_, rfl, rfl⟩, ⟨_, rfl, rfl⟩, ⟨_, rfl, rfl⟩, trivial⟩
 | false =>
  refine kCf ?_
  refine kW ?_
  refine kQ [.v (.int .i64 0)] ?_
  refine kW ?_
  refine AK.weak (Weak.introN (L := [(0, .np 2000000 0), (3, .ptr 3 0), (4, .ptr 4 0)]) (BL := [(3, idA i, false), (4, nullC, false), (2000000, [.np 2900001 0, .int .i64 last, .lst .any 1 [], .int .i64 fuse, .bool false, npC], false), (2900001, [mcA (rowsE has)], false)]) ⟨kI, kI, kI, trivial⟩ ⟨kJ, ⟨_, rfl, .refl _, .refl _, .refl _, .refl _, .any .nil 6 [], .any .nil 7 [], trivial⟩, kJ, kJ, trivial⟩ rfl rfl ⟨rfl, rfl, trivial⟩) ?_
  cases hfd : Clu.find ⟨has, last, fails, fuse, false⟩ i with
  | none =>
   have hg := hng hfd
   refine AK.rega fw0 [.s [2900001] [(2900001, [mcA (rowsE has)])] (.tup [.agg zE, .bool false])] (frOf [(4, .ptr 4 0), (8, .bool false)]) ⟨boxOf [(4, nullC, false), (2000000, [.np 2900001 0, .int .i64 last, .lst .any 1 [], .int .i64 fuse, .bool false, npC], false), (2900001, [mcA (rowsE has)], false)], fun _ => 0⟩ ?_ ?_
   ·(repeat' (first | exact trivial | apply And.intro))
    all_goals first | (show _ = _; exact rfl) | (show MOp _ _ _ _ _ _; exact hg) | exact Weak.introN ⟨kI, kI, trivial⟩ ⟨kJ, kJ, kJ, trivial⟩ rfl rfl ⟨rfl, rfl, trivial⟩
   refine kW ?_
   refine kCt ?_
   refine kS ?_
   refine kA fw0 ?_
   refine AK.weak (Weak.introN (L := [(4, .ptr 4 0), (5, .int .i64 0), (6, .int .i64 3)]) (BL := [(4, nullC, false), (2000000, [.np 2900001 0, .int .i64 last, .lst .any 1 [], .int .i64 fuse, .bool false, npC], false), (2900001, [mcA (rowsE has)], false)]) ⟨kI, kI, kI, trivial⟩ ⟨⟨_, rfl, .refl _, .refl _, .refl _, .refl _, .any .nil 6 [], .any .nil 7 [], trivial⟩, kJ, kJ, trivial⟩ rfl rfl ⟨rfl, rfl, trivial⟩) ?_
   exact AK.ret ⟨⟨_, rfl, rfl⟩, ⟨_, rfl, rfl⟩, ⟨_, rfl, rfl⟩, trivial⟩
  | some e =>
   have hg := hsg e hfd
   have hez : e.body.size ≤ 1000000 := by
    unfold Clu.find at hfd
    exact hsz e (List.mem_of_find?_eq_some hfd)
   have hc : AC Tryd.prog 22 [(vA (e.body))] ((vA (e.body))) := clone_ok e.body (by omega)
   refine AK.rega fw0 [.s [2900001] [(2900001, [mcA (rowsE has)])] (.tup [.agg (enV e.body e.ver), .bool true])] (frOf [(0, .np 2000000 0), (4, .ptr 4 0), (7, .ptr 7 0), (8, .bool true)]) ⟨boxOf [(4, nullC, false), (7, enV e.body e.ver, false), (2000000, [.np 2900001 0, .int .i64 last, .lst .any 1 [], .int .i64 fuse, .bool false, npC], false), (2900001, [mcA (rowsE has)], false)], fun _ => 0⟩ ?_ ?_
   ·(repeat' (first | exact trivial | apply And.intro))
    all_goals first | (show _ = _; exact rfl) | (show MOp _ _ _ _ _ _; exact hg) | exact Weak.introN ⟨kI, kI, kI, kI, trivial⟩ ⟨kJ, kJ, kJ, kJ, trivial⟩ rfl rfl ⟨rfl, rfl, trivial⟩
   refine kW ?_
   refine kCf ?_
   refine kW ?_
   refine AK.rega fw0 [.v ((vA (e.body)))] (frOf [(4, .ptr 4 0), (5, .int .i64 e.ver), (6, .int .i64 0)]) ⟨boxOf [(4, (vC (e.body)), false), (2000000, [.np 2900001 0, .int .i64 last, .lst .any 1 [], .int .i64 fuse, .bool false, npC], false), (2900001, [mcA (rowsE has)], false)], fun _ => 0⟩ ?_ ?_
   ·(repeat' (first | exact trivial | apply And.intro))
    all_goals first | (show _ = _; exact rfl) | (show AC _ _ _ _; exact hc) | exact Weak.introN ⟨kI, kI, kI, trivial⟩ ⟨kJ, kJ, kJ, trivial⟩ rfl rfl ⟨rfl, rfl, trivial⟩
   refine kW ?_
   exact AK.ret ⟨⟨_, rfl, rfl⟩, ⟨_, rfl, rfl⟩, ⟨_, rfl, rfl⟩, trivial⟩
theorem create_s (cl : Clu) (hk : CluK cl) {i : OId} (hi : KeyI i.k i.s i.n) (hw : idOk i.k i.s i.n) : MS Tryd.prog 8 (cluX 1000100 1900101 cl) [.np 1000100 0, .agg (idA i), (vA (emB))] (cluX 1000100 1900101 (cl.create 0 i emB).2) (.int .i64 (cl.create 0 i emB).1) :=
 (create_g cl hk hi emB (by decide +kernel) 0 (wrong_a hw)).ren rhoC rhoC_inj rhoC_mp
theorem get_s (cl : Clu) (hk : CluK cl) {i : OId} (hi : KeyI i.k i.s i.n) : MS Tryd.prog 13 (cluX 1000100 1900101 cl) [.np 1000100 0, .agg (idA i)] (cluX 1000100 1900101 cl) (.tup [(vA ((cl.get i).1)), .int .i64 (cl.get i).2.1, .int .i64 (cl.get i).2.2]) :=
 (get_g cl hk hi).ren rhoC rhoC_inj rhoC_mp
theorem fuse_s (cl : Clu) (n : Int) : MS Tryd.prog 12 (cluX 1000100 1900101 cl) [.np 1000100 0, .int .i64 n] (cluX 1000100 1900101 { cl with fuse := n }) (.tup []) := (fuse_g cl n).ren rhoC rhoC_inj rhoC_mp
theorem restart_s (cl : Clu) (hf : cl.fails = []) : MS Tryd.prog 14 (cluX 1000100 1900101 cl) [.np 1000100 0] (cluX 1000100 1900101 { cl with down := false, fuse := -1 }) (.tup []) := (restart_g cl hf).ren rhoC rhoC_inj rhoC_mp
theorem down_s (cl : Clu) : MS Tryd.prog 11 (cluX 1000100 1900101 cl) [.np 1000100 0] (cluX 1000100 1900101 cl) (.bool cl.down) := (down_g cl).ren rhoC rhoC_inj rhoC_mp
theorem objects_s (cl : Clu) (hok : CluOk cl) : MS Tryd.prog 10 (cluX 1000100 1900101 cl) [.np 1000100 0] (cluX 1000100 1900101 cl) (.lst .any 9 (rowsO cl.objects)) := by
 have h := (objects_m cl hok).ren rhoC rhoC_inj rhoC_mp
 exact h
theorem nm_at : ∀ k : Fin 60, (⟨#[99]⟩ : ByteArray) ++ ⟨[(IntKind.u8.wrap (IntKind.i64.wrap (97 + ((k.val : Nat) : Int).tmod 26))).toNat.toUInt8, (IntKind.u8.wrap (IntKind.i64.wrap (97 + IntKind.i64.wrap (((k.val : Nat) : Int).tdiv 26)))).toNat.toUInt8].toArray⟩ = nmI k.val := by decide +kernel
theorem nm_ok : ∀ k : Fin 60, idOk ⟨#[65]⟩ ⟨#[98]⟩ (nmI k.val) := by
 have h : ∀ k : Fin 60, (wordOkB ⟨#[65]⟩ && wordOkB ⟨#[98]⟩ && wordOkB (nmI k.val)) = true := by decide +kernel
 exact fun k => ⟨h k, by decide, by decide, by show (3 : Nat) ≤ 64; omega⟩
theorem zz_ok : idOk ⟨#[65]⟩ ⟨#[98]⟩ ⟨#[122, 122]⟩ := ⟨by decide +kernel, by decide, by decide, by decide⟩
theorem idI_at {k : Nat} (h : k < 60) : idI k = ⟨⟨#[65]⟩, ⟨#[98]⟩, nmI k⟩ := by unfold idI; rw [if_pos h]
theorem key_at {k : Nat} (h : k < 60) : KeyI (idI k).k (idI k).s (idI k).n := keyI_of (idI_size h).1 (idI_size h).2.1 (idI_size h).2.2
theorem key_zz : KeyI idZ.k idZ.s idZ.n := keyI_of (by show (1 : Nat) ≤ _; omega) (by show (1 : Nat) ≤ _; omega) (by show (2 : Nat) ≤ _; omega)
theorem clu_create {f k : Nat} (hf : f ≤ 100) (hk : k < 60) : MS Tryd.prog 8 (cluX 1000100 1900101 (fused idI emB f k)) [.np 1000100 0, .agg [.str ⟨#[65]⟩, .str ⟨#[98]⟩, .str (nmI k)], (vA (emB))] (cluX 1000100 1900101 (fused idI emB f (k + 1))) (.int .i64 (if k < f then 0 else 31)) := by
 have h := create_s (fused idI emB f k) (fused_K hf k (by omega)).1 (key_at hk) (by rw [idI_at hk]; exact nm_ok ⟨k, hk⟩)
 rw [fused_ans] at h
 rw [idI_at hk] at h
 have e : ((fused idI emB f k).create 0 ⟨⟨#[65]⟩, ⟨#[98]⟩, nmI k⟩ emB).2 = fused idI emB f (k + 1) := by
  rw [← idI_at hk]
  rfl
 rw [e] at h
 exact h
abbrev cluB (c : Clu) : List (Nat × List AV × Bool) := [(1000100, [.np 1900101 0, .int .i64 c.last, .lst .any 1 [], .int .i64 c.fuse, .bool c.down, npC], false), (1900101, [mcA (rowsE c.has)], false)]
theorem nm_wr : ∀ k : Fin 60, 0 ≤ IntKind.u8.wrap (IntKind.i64.wrap (97 + ((k.val : Nat) : Int).tmod 26)) ∧ IntKind.u8.wrap (IntKind.i64.wrap (97 + ((k.val : Nat) : Int).tmod 26)) < 256 ∧ 0 ≤ IntKind.u8.wrap (IntKind.i64.wrap (97 + IntKind.i64.wrap (((k.val : Nat) : Int).tdiv 26))) ∧ IntKind.u8.wrap (IntKind.i64.wrap (97 + IntKind.i64.wrap (((k.val : Nat) : Int).tdiv 26))) < 256 := by decide +kernel
theorem inc_le {st : St} {a b : Int} (h0 : 0 ≤ a) (h1 : a ≤ 1000000) (h : a + 1 = b) : AVle st (.int .i64 (IntKind.i64.wrap (a + 1))) (.int .i64 b) := by
 rw [wrap_in (by omega) (by omega), h]
 exact .refl _
theorem clusterFuses_a (n : Nat) (hn : n < 256) (ns : List (List AV)) : AC Tryd.prog 4 [.int .u8 n, .lst .any 1 ns] (.bool true) := by
 have hM : AC Tryd.prog 9 [.lst .any 7 []] ((vA (emB))) := treeMap_a [] (by decide +kernel)
 have hA := awakeCl_a
 obtain ⟨f, hf⟩ : ∃ f, f = n % 40 := ⟨_, rfl⟩
 have hfl : f < 40 := by omega
 have hfi : IntKind.i64.wrap ((n : Int).tmod 40) = (f : Int) := by
  have : (n : Int).tmod 40 = ((n % 40 : Nat) : Int) := rfl
  rw [this, ← hf]
  exact wrap_in (by omega) (by omega)
 refine kE Tryd.func4 a_law16_ClusterFuses_ok a_law16_ClusterFuses_cb fun E hE => ?_
 refine kW ?_
 refine kC (fun hb => ?_) fun hb => ?_
 ·refine kW ?_
  refine kQ [.v (.bool true)] ?_
  refine kW ?_
  refine AK.ret ⟨_, rfl, ?_⟩
  rfl
 have hl : ns.length ≤ 60 := by
  have : ¬ (ns.length : Int) > 60 := by simpa using hb
  omega
 clear hb
 refine kW ?_
 refine kP [.s [] (cluX 1000100 1900101 Clu.new) (.np 1000100 0)] ?_ ?_
 ·((repeat' apply And.intro) <;> first | exact kD | (intro hgd; refine ⟨?_, kG⟩; (repeat' apply And.intro) <;> first | exact kD | skip) | skip)
  ·exact new_a
 have hF : MS Tryd.prog 12 (cluX 1000100 1900101 Clu.new) [.np 1000100 0, .int .i64 (IntKind.i64.wrap ((n : Int).tmod 40))] (cluX 1000100 1900101 (fused idI emB f 0)) (.tup []) := by
  have h := fuse_s Clu.new (f : Int)
  rw [← hfi] at h
  rw [hfi] at h ⊢
  exact h
 refine kW ?_
 refine kQ [.s [1000100, 1900101] (cluX 1000100 1900101 (fused idI emB f 0)) (.tup [])] ?_
 refine kW ?_
 refine AK.loopI (fun k : Nat => (frOf [(0, .int .u8 n), (1, .lst .any 1 ns), (5, .np 1000100 0), (6, .int .i64 ((min k f : Nat) : Int)), (25, .int .i64 ns.length), (26, .int .i64 k)], ⟨boxOf (cluB (fused idI emB f k)), fun _ => 0⟩)) (fun k => k ≤ ns.length) (fun k => ns.length - k) 0 (by omega) (Weak.introN ⟨kI, kI, kI, ⟨_, rfl, by rw [Nat.zero_min]; exact .refl _⟩, kI, kI, trivial⟩ ⟨kJ, kJ, trivial⟩ rfl rfl ⟨rfl, rfl, trivial⟩) fun k hk => ?_
 refine kW ?_
 refine kC (fun hb => ?_) fun hb => ?_
 ·have hk2 : k < ns.length := by simpa using hb
  have hk60 : k < 60 := by omega
  clear hb
  have hnm := nm_at ⟨k, hk60⟩
  dsimp only at hnm
  refine kW ?_
  refine kP [] ?_ ?_
  ·((repeat' apply And.intro) <;> first | exact kD | (intro hgd; refine ⟨?_, kG⟩; (repeat' apply And.intro) <;> first | exact kD | skip) | skip)
   all_goals have hw := nm_wr ⟨k, hk60⟩
   all_goals dsimp only at hw
   all_goals first | with_reducible exact hw.1 | with_reducible exact hw.2.1 | with_reducible exact hw.2.2.1 | with_reducible exact hw.2.2.2 | (clear hw; show ((1 + 2 : Nat) : Int) ≤ _; omega)
  refine AK.weak (Weak.introN (L := [(0, .int .u8 n), (1, .lst .any 1 ns), (5, .np 1000100 0), (6, .int .i64 ((min k f : Nat) : Int)), (7, .int .i64 k), (8, .ptr 8 0), (25, .int .i64 ns.length), (26, .int .i64 k)]) (BL := (8, [.str ⟨#[65]⟩, .str ⟨#[98]⟩, .str (nmI k)], false) :: cluB (fused idI emB f k)) ⟨kI, kI, kI, kI, kI, kI, kI, kI, trivial⟩ ⟨⟨_, rfl, .refl _, .refl _, by rw [← hnm]; exact .refl _, trivial⟩, kJ, kJ, trivial⟩ rfl rfl ⟨rfl, rfl, trivial⟩) ?_
  by_cases hkf : k < f
  ·have hC := clu_create (f := f) (k := k) (by omega) hk60
   rw [if_pos hkf] at hC
   refine kW ?_
   refine kQ [.v ((vA (emB))), .s [1000100, 1900101] (cluX 1000100 1900101 (fused idI emB f (k + 1))) (.int .i64 0)] ?_
   refine kS (kS ?_)
   refine AK.regC 5 49 (.bool true) [] ?_ ?_ ?_ ?_
   ·((repeat' apply And.intro) <;> first | exact kD | (intro hgd; refine ⟨?_, kG⟩; (repeat' apply And.intro) <;> first | exact kD | skip) | skip)
    all_goals omega
   ·show AV.bool (decide _) = _
    rw [hfi]
    simp [hkf]
   ·((repeat' apply And.intro) <;> first | exact kD | (intro hgd; refine ⟨?_, kG⟩; (repeat' apply And.intro) <;> first | exact kD | skip) | skip)
   refine kW ?_
   refine kQ [] ?_
   refine kCf ?_
   refine kW ?_
   refine kCt ?_
   refine kW ?_
   refine AK.lp ⟨k + 1, by omega, ?_, by omega⟩
   exact Weak.introN ⟨kI, kI, kI, ⟨_, rfl, inc_le (a := ((min k f : Nat) : Int)) (by omega) (by omega) (by omega)⟩, kI, ⟨_, rfl, inc_le (a := (k : Int)) (by omega) (by omega) (by omega)⟩, trivial⟩ ⟨kJ, kJ, trivial⟩ rfl rfl ⟨rfl, rfl, trivial⟩
  ·have hC := clu_create (f := f) (k := k) (by omega) hk60
   rw [if_neg hkf] at hC
   refine kW ?_
   refine kQ [.v ((vA (emB))), .s [1000100, 1900101] (cluX 1000100 1900101 (fused idI emB f (k + 1))) (.int .i64 31)] ?_
   refine kS (kS ?_)
   refine AK.regC 5 49 (.bool false) [] ?_ ?_ ?_ ?_
   ·((repeat' apply And.intro) <;> first | exact kD | (intro hgd; refine ⟨?_, kG⟩; (repeat' apply And.intro) <;> first | exact kD | skip) | skip)
    all_goals omega
   ·show AV.bool (decide _) = _
    rw [hfi]
    simp [hkf]
   ·((repeat' apply And.intro) <;> first | exact kD | (intro hgd; refine ⟨?_, kG⟩; (repeat' apply And.intro) <;> first | exact kD | skip) | skip)
   refine kW ?_
   refine kQ [] ?_
   refine kCf ?_
   refine kW ?_
   refine kCf ?_
   refine kW ?_
   refine AK.lp ⟨k + 1, by omega, ?_, by omega⟩
   exact Weak.introN ⟨kI, kI, kI, ⟨_, rfl, by rw [show min k f = min (k + 1) f by omega]; exact .refl _⟩, kI, ⟨_, rfl, inc_le (a := (k : Int)) (by omega) (by omega) (by omega)⟩, trivial⟩ ⟨kJ, kJ, trivial⟩ rfl rfl ⟨rfl, rfl, trivial⟩
 ·have hk3 : k = ns.length := by
   have : ¬ (k : Int) < ns.length := by simpa using hb
   omega
  subst hk3
  clear hb hk
  refine AK.exit rfl ?_
  obtain ⟨p1, p2, p3, p4⟩ := fused_at (v := emB) (f := f) (fun i j h => idI_ne i j h) ns.length
  have hK := (fused_K (f := f) (by omega) ns.length hl).1
  have hKl := (fused_K (f := f) (by omega) ns.length hl).2
  have hZ : (fused idI emB f ns.length).find idZ = none := find_none.2 (fused_noZ ns.length hl)
  generalize fused idI emB f ns.length = c at *
  have hG : MS Tryd.prog 13 (cluX 1000100 1900101 c) [.np 1000100 0, .agg (idA idZ)] (cluX 1000100 1900101 c) (.tup [(vA (V.null)), .int .i64 0, .int .i64 (if f < ns.length then 31 else 3)]) := by
   have h := get_s c hK key_zz
   unfold Clu.get at h
   by_cases hd : f < ns.length
   ·rw [if_pos hd]
    rw [if_pos (p4 hd).1] at h
    exact h
   ·rw [if_neg hd]
    rw [if_neg (by rw [(p3 (by omega)).1]; simp), hZ] at h
    exact h
  have hD := down_s c
  have hR := restart_s c p1
  have hcK : CluK { c with down := false, fuse := -1 } := ⟨⟨hK.ok.nd, hK.ok.size, hK.ok.len⟩, hK.ids, hK.last, (by show (-1000 : Int) ≤ -1 ∧ (-1 : Int) ≤ 1000; omega), p1⟩
  have hD2 := down_s { c with down := false, fuse := -1 }
  have hO := objects_s { c with down := false, fuse := -1 } hcK.ok
  have hol : (rowsO (Clu.objects { c with down := false, fuse := -1 })).length = min ns.length f := by
   rw [rowsO_len]
   unfold Clu.objects
   rw [(sortO_perm _).length_eq, List.length_map]
   exact p2
  have hC := create_s { c with down := false, fuse := -1 } hcK key_zz zz_ok
  have hcr : (Clu.create { c with down := false, fuse := -1 } 0 idZ emB).1 = 0 := by
   rw [create_new emB (by exact hZ)]
   have : (Clu.write { c with down := false, fuse := -1 }).1 = 0 := by
    unfold Clu.write
    rw [if_neg (by simp)]
    dsimp only
    rw [p1]
    rfl
   rw [this]
   simp
  rw [hcr] at hC
  by_cases hd : f < ns.length
  ·rw [if_pos hd] at hG
   rw [(p4 hd).1] at hD
   refine kW ?_
   refine kQ [.s [1000100, 1900101] (cluX 1000100 1900101 c) (.tup [(vA (V.null)), .int .i64 0, .int .i64 31])] ?_
   refine kS (kS ?_)
   refine AK.regC 8 81 (.bool true) [.s [1000100, 1900101] (cluX 1000100 1900101 c) (.bool true), .s [1000100, 1900101] (cluX 1000100 1900101 c) (.bool true)] ?_ ?_ ?_ ?_
   ·((repeat' apply And.intro) <;> first | exact kD | (intro hgd; refine ⟨?_, kG⟩; (repeat' apply And.intro) <;> first | exact kD | skip) | skip)
    all_goals omega
   ·show AV.bool (decide _) = _
    rw [hfi]
    simp [hd]
   ·((repeat' apply And.intro) <;> first | exact kD | (intro hgd; refine ⟨?_, kG⟩; (repeat' apply And.intro) <;> first | exact kD | skip) | skip)
   refine kCf ?_
   refine kW ?_
   refine AK.weak (Weak.introN (L := [(5, .np 1000100 0), (6, .int .i64 ((min ns.length f : Nat) : Int))]) (BL := cluB c) ⟨kI, kI, trivial⟩ ⟨kJ, kJ, trivial⟩ rfl rfl ⟨rfl, rfl, trivial⟩) ?_
   refine kW ?_
   refine kQ [.s [1000100, 1900101] (cluX 1000100 1900101 { c with down := false, fuse := -1 }) (.tup [])] ?_
   refine kS ?_
   refine AK.regC 12 103 (.when true (.bool true)) [.v (.bool true), .s [1000100, 1900101] (cluX 1000100 1900101 { c with down := false, fuse := -1 }) (.bool false), .s [1000100, 1900101] (cluX 1000100 1900101 { c with down := false, fuse := -1 }) (.lst .any 9 (rowsO (Clu.objects { c with down := false, fuse := -1 }))), .v ((vA (emB))), .s [1000100, 1900101] (cluX 1000100 1900101 (Clu.create { c with down := false, fuse := -1 } 0 idZ emB).2) (.int .i64 0)] ?_ ?_ ?_ ?_
   ·((repeat' apply And.intro) <;> first | exact kD | (intro hgd; refine ⟨?_, kG⟩; (repeat' apply And.intro) <;> first | exact kD | skip) | skip)
   ·show AV.when true (AV.bool (decide (((rowsO (Clu.objects { c with down := false, fuse := -1 })).length : Int) = ((min ns.length f : Nat) : Int)))) = _
    rw [hol]
    simp
   ·((repeat' apply And.intro) <;> first | exact kD | (intro hgd; refine ⟨?_, kG⟩; (repeat' apply And.intro) <;> first | exact kD | skip) | skip)
   refine AK.ret ⟨_, rfl, ?_⟩
   rfl
  ·rw [if_neg hd] at hG
   rw [(p3 (by omega)).1] at hD
   refine kW ?_
   refine kQ [.s [1000100, 1900101] (cluX 1000100 1900101 c) (.tup [(vA (V.null)), .int .i64 0, .int .i64 3])] ?_
   refine kS (kS ?_)
   refine AK.regC 8 81 (.bool false) [.s [1000100, 1900101] (cluX 1000100 1900101 c) (.bool false), .s [1000100, 1900101] (cluX 1000100 1900101 c) (.bool false)] ?_ ?_ ?_ ?_
   ·((repeat' apply And.intro) <;> first | exact kD | (intro hgd; refine ⟨?_, kG⟩; (repeat' apply And.intro) <;> first | exact kD | skip) | skip)
    all_goals omega
   ·show AV.bool (decide _) = _
    rw [hfi]
    simp [hd]
   ·((repeat' apply And.intro) <;> first | exact kD | (intro hgd; refine ⟨?_, kG⟩; (repeat' apply And.intro) <;> first | exact kD | skip) | skip)
   refine kCf ?_
   refine kW ?_
   refine AK.weak (Weak.introN (L := [(5, .np 1000100 0), (6, .int .i64 ((min ns.length f : Nat) : Int))]) (BL := cluB c) ⟨kI, kI, trivial⟩ ⟨kJ, kJ, trivial⟩ rfl rfl ⟨rfl, rfl, trivial⟩) ?_
   refine kW ?_
   refine kQ [.s [1000100, 1900101] (cluX 1000100 1900101 { c with down := false, fuse := -1 }) (.tup [])] ?_
   refine kS ?_
   refine AK.regC 12 103 (.when true (.bool true)) [.v (.bool true), .s [1000100, 1900101] (cluX 1000100 1900101 { c with down := false, fuse := -1 }) (.bool false), .s [1000100, 1900101] (cluX 1000100 1900101 { c with down := false, fuse := -1 }) (.lst .any 9 (rowsO (Clu.objects { c with down := false, fuse := -1 }))), .v ((vA (emB))), .s [1000100, 1900101] (cluX 1000100 1900101 (Clu.create { c with down := false, fuse := -1 } 0 idZ emB).2) (.int .i64 0)] ?_ ?_ ?_ ?_
   ·((repeat' apply And.intro) <;> first | exact kD | (intro hgd; refine ⟨?_, kG⟩; (repeat' apply And.intro) <;> first | exact kD | skip) | skip)
   ·show AV.when true (AV.bool (decide (((rowsO (Clu.objects { c with down := false, fuse := -1 })).length : Int) = ((min ns.length f : Nat) : Int)))) = _
    rw [hol]
    simp
   ·((repeat' apply And.intro) <;> first | exact kD | (intro hgd; refine ⟨?_, kG⟩; (repeat' apply And.intro) <;> first | exact kD | skip) | skip)
   refine AK.ret ⟨_, rfl, ?_⟩
   rfl
end Go.Proofs.YtdncaodccgfniaaDoor
