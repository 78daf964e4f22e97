/-
  The texts that the claim wants, one behind the other: part 33.
-/
import Derived.Test.YtdncaodccgfniaaDoorS32
set_option linter.unusedSimpArgs false
set_option linter.unusedVariables false
namespace Go.Proofs.YtdncaodccgfniaaDoor
open Go.RowKit
theorem arun_split {P : Program} : ∀ {l1 l2 : List GI} {rs rs1 rs2 : List RS} {fr fr1 fr2 : Fr} {st st1 st2 : St} {p1 p2 : Prop}, arun P l1 rs fr st = some (rs1, fr1, st1, p1) → arun P l2 rs1 fr1 st1 = some (rs2, fr2, st2, p2) → ∃ p, arun P (l1 ++ l2) rs fr st = some (rs2, fr2, st2, p) ∧ (p1 → p2 → p)
 | [], l2, rs, rs1, rs2, fr, fr1, fr2, st, st1, st2, p1, p2, h1, h2 => by
  cases h1
  exact ⟨p2, h2, fun _ h => h⟩
 | x :: l, l2, rs, rs1, rs2, fr, fr1, fr2, st, st1, st2, p1, p2, h1, h2 => by
  rw [List.cons_append]
  unfold arun at h1 ⊢
  cases hw : x.i.wantsRS with
  | true =>
   rw [hw] at h1
   simp only at h1 ⊢
   cases rs with
   | nil => cases h1
   | cons r rs =>
    simp only at h1 ⊢
    split at h1
    ·rename_i f s q hg
     split at h1
     ·rename_i rs' f' s' q' ha
      injection h1 with h1
      injection h1 with e1 h1
      injection h1 with e2 h1
      injection h1 with e3 e4
      subst e1 e2 e3 e4
      obtain ⟨p, hp, hi⟩ := arun_split ha h2
      rw [hp]
      exact ⟨q ∧ p, rfl, fun h h' => ⟨h.1, hi h.2 h'⟩⟩
     ·cases h1
    ·cases h1
  | false =>
   rw [hw] at h1
   simp only at h1 ⊢
   split at h1
   ·rename_i f s q hq hg
    obtain ⟨p, hp, hi⟩ := arun_split h1 h2
    exact ⟨p, hp, hi⟩
   ·rename_i f s q hq hg
    split at h1
    ·rename_i rs' f' s' q' ha
     injection h1 with h1
     injection h1 with e1 h1
     injection h1 with e2 h1
     injection h1 with e3 e4
     subst e1 e2 e3 e4
     obtain ⟨p, hp, hi⟩ := arun_split ha h2
     rw [hp]
     exact ⟨q ∧ p, rfl, fun h h' => ⟨h.1, hi h.2 h'⟩⟩
    ·cases h1
   ·cases h1
theorem upd_told {fr : Fr} {s : Nat} {v : AV} (h : fr s = some v) : upd fr s (some v) = fr := by
 funext i
 unfold upd
 cases hi : Nat.beq i s with
 | true => rw [Nat.eq_of_beq_eq_true hi]; exact h.symm
 | false => rfl
theorem AK.regC {P : Program} {E : Env} {Q : Exit → Fr → St → Prop} {k : List AItem} {fr fr1 fr2 : Fr} {st st1 st2 : St} {l : List GI} (j s : Nat) (v : AV) (rs : List RS) {rs1 rs2 : List RS} {p1 p2 : Prop} {v1 : AV} (hp1 : p1) (hv : v1 = v) (hp2 : p2) (h : AK P E Q k fr2 st2) (h1 : arun P (l.take j) rs fr st = some (rs1, fr1, st1, p1) := by rfl) (hs : fr1 s = some v1 := by rfl) (h2 : arun P (l.drop j) rs1 (upd fr1 s (some v)) st1 = some (rs2, fr2, st2, p2) := by rfl) (hm : P.follows .mixedOrders = true := by exact fw0) : AK P E Q (.c (.reg l) :: k) fr st := by
 subst hv
 rw [upd_told hs] at h2
 obtain ⟨p, hp, hi⟩ := arun_split h1 h2
 rw [List.take_append_drop] at hp
 exact AK.reg hm hp (hi hp1 hp2) h
abbrev emB : V := .mk 5 false 0 ⟨#[]⟩ [] []
theorem create_K {c : Clu} (h : CluK c) (hl : c.has.length < 1000000) (ha : c.last < 1000000000) (i : OId) (hi : i.k.size ≤ 1000000 ∧ i.s.size ≤ 1000000 ∧ i.n.size ≤ 1000000) : CluK (c.create 0 i emB).2 ∧ (c.create 0 i emB).2.has.length ≤ c.has.length + 1 ∧ (c.create 0 i emB).2.last ≤ c.last + 1 := by
 unfold Clu.create
 rw [if_neg (by simp)]
 split
 ·exact ⟨h.write, by rw [(write_has c).1]; omega, by rw [(write_has c).2]; omega⟩
 ·split
  ·exact ⟨h.write, by simp only; rw [(write_has c).1]; omega, by simp only; rw [(write_has c).2]; omega⟩
  ·refine ⟨h.write.put hi (by decide +kernel) (by rw [(write_has c).1]; omega) (by rw [(write_has c).2]; omega), ?_, ?_⟩
   ·show (putE c.write.2.has _).length ≤ _
    have := putE_len c.write.2.has ⟨i, emB, c.write.2.last + 1⟩
    rw [(write_has c).1] at this
    rw [(write_has c).1]
    omega
   ·show c.write.2.last + 1 ≤ _
    rw [(write_has c).2]
    omega
theorem idI_size {k : Nat} (h : k < 60) : (idI k).k.size ≤ 1000000 ∧ (idI k).s.size ≤ 1000000 ∧ (idI k).n.size ≤ 1000000 := by
 unfold idI
 rw [if_pos h]
 exact ⟨by show (1 : Nat) ≤ _; omega, by show (1 : Nat) ≤ _; omega, by show (3 : Nat) ≤ _; omega⟩
end Go.Proofs.YtdncaodccgfniaaDoor
namespace Go.Proofs.YtdncaodccgfniaaDoor
open Go.RowKit Go.Maps Go.MapKept Go.ChangeMaps
abbrev zA : List AV := [.int .i64 0, .bool false, .int .i64 0, .str ⟨#[]⟩, .lst .nil 6 [], .lst .nil 7 []]
set_option maxHeartbeats 20000000 in
theorem create_m {rows : List MRow} {a b c : ByteArray} (hk : KeysOk Tryd.prog 31 rows) (h : KeyI a b c) (hi : idOk a b c) (ho : Found rows (idK a b c) none) (last fuse : Int) (hl : -1000 ≤ last ∧ last ≤ 1000) (hf : -1000 ≤ fuse ∧ fuse ≤ 1000) (h0 : fuse ≠ 0) :
  MS Tryd.prog 8 (cluS 2000000 2900001 rows last fuse false) [.np 2000000 0, .agg (idK a b c), (vA (emV))] (cluS 2000000 2900001 (putR rows (idK a b c) (enA (last + 1))) (last + 1) (wrF fuse false) false) (.int .i64 0) := by
 have hw := wrong_a hi
 have hwr := write_m rows last fuse false hf
 obtain ⟨e1, e2, e3⟩ := wr_live h0
 rw [e1, e3] at hwr
 have hg := (get_m hk h).1 ho
 have ha := add_a 1
 have hp := put_m hk h last (wrF fuse false) false hl
 refine MS.enter Tryd.func8 a_cluster_Cluster_Create_ok a_cluster_Cluster_Create_cb (by rfl) (by rfl) fun E hE => ?_
 show AK _ _ _ [.c b_cluster_Cluster_Create] _ _
 rw [b_cluster_Cluster_Create]
 refine kW ?_
 refine kQ [.v (.int .i64 0)] ?_
 refine kW ?_
 refine kCf ?_
 refine kW ?_
 refine kQ [.s [2000000, 2900001] (cluS 2000000 2900001 rows last (wrF fuse false) false) (.int .i64 0)] ?_
 refine kW ?_
 refine kCf ?_
 refine kW ?_
 refine AK.weak (Weak.introN (L := [(0, .np 2000000 0), (4, .ptr 4 0), (5, .ptr 5 0)]) (BL := [(4, idK a b c, false), (5, cM, false), (2000000, cluC 2900001 last (wrF fuse false) false, false), (2900001, [mcA rows], false)]) ⟨kI, kI, kI, trivial⟩ ⟨kJ, kJ, kJ, kJ, trivial⟩ rfl rfl ⟨rfl, rfl, trivial⟩) ?_
 refine AK.rega fw0 [.s [2900001] [(2900001, [mcA rows])] (.tup [.agg zE, .bool false])] (frOf [(0, .np 2000000 0), (4, .ptr 4 0), (5, .ptr 5 0), (10, .bool false)]) ⟨boxOf [(4, idK a b c, false), (5, cM, false), (2000000, cluC 2900001 last (wrF fuse false) false, false), (2900001, [mcA rows], false)], fun _ => 0⟩ ?_ ?_
 ·(repeat' (first | exact trivial | apply And.intro))
  all_goals first | (show _ = _; exact rfl) | (show MOp _ _ _ _ _ _; exact hg) | exact Weak.introN ⟨kI, kI, kI, kI, trivial⟩ ⟨kJ, kJ, kJ, kJ, trivial⟩ rfl rfl ⟨rfl, rfl, trivial⟩
 refine kW ?_
 refine kCf ?_
 refine kW ?_
 refine kQ [.v (.int .i64 0)] ?_
 refine kW ?_
 refine kQ [.s [2000000, 2900001] (cluS 2000000 2900001 (putR rows (idK a b c) (enA (last + 1))) (last + 1) (wrF fuse false) false) (.tup [])] ?_
 refine kW ?_
 exact AK.ret ⟨⟨_, rfl, rfl⟩, ⟨_, rfl, rfl⟩, ⟨_, rfl, rfl⟩, trivial⟩
set_option maxHeartbeats 20000000 in
theorem getOk_m {rows : List MRow} {a b c : ByteArray} (hk : KeysOk Tryd.prog 31 rows) (h : KeyI a b c) (n : Int) (ho : Found rows (idK a b c) (some (enA n))) (last fuse : Int) :
  MS Tryd.prog 13 (cluS 2000000 2900001 rows last fuse false) [.np 2000000 0, .agg (idK a b c)] (cluS 2000000 2900001 rows last fuse false) (.tup [(vA (emV)), .int .i64 n, .int .i64 0]) := by
 have hg := (get_m hk h).2 n ho
 have ha := add_a 0
 have hc : AC Tryd.prog 22 [(vA (emV))] ((vA (emV))) := clone_ok emV (by decide +kernel)
 refine MS.enter Tryd.func13 a_cluster_Cluster_Get_ok a_cluster_Cluster_Get_cb (by rfl) (by rfl) fun E hE => ?_
 show AK _ _ _ [.c b_cluster_Cluster_Get] _ _
 rw [b_cluster_Cluster_Get]
 refine kW ?_
 refine kP [] ?_ ?_
 ·((repeat' apply And.intro) <;> first | exact kD | (intro hgd; refine ⟨?_, kG⟩; (repeat' apply And.intro) <;> first | exact kD | skip) | skip)
  ·exact fun g o => someClu false g o
 refine kCf ?_
 refine kW ?_
 refine kCf ?_
 refine kW ?_
 refine kQ [.v (.int .i64 0)] ?_
 refine kW ?_
 refine AK.weak (Weak.introN (L := [(0, .np 2000000 0), (3, .ptr 3 0), (4, .ptr 4 0)]) (BL := [(3, idK a b c, false), (4, zA, false), (2000000, cluC 2900001 last fuse false, false), (2900001, [mcA rows], false)]) ⟨kI, kI, kI, trivial⟩ ⟨kJ, kJ, kJ, kJ, trivial⟩ rfl rfl ⟨rfl, rfl, trivial⟩) ?_
 refine AK.rega fw0 [.s [2900001] [(2900001, [mcA rows])] (.tup [.agg (enA n), .bool true])] (frOf [(0, .np 2000000 0), (4, .ptr 4 0), (7, .ptr 7 0), (8, .bool true)]) ⟨boxOf [(4, zA, false), (7, enA n, false), (2000000, cluC 2900001 last fuse false, false), (2900001, [mcA rows], false)], fun _ => 0⟩ ?_ ?_
 ·(repeat' (first | exact trivial | apply And.intro))
  all_goals first | (show _ = _; exact rfl) | (show MOp _ _ _ _ _ _; exact hg) | exact Weak.introN ⟨kI, kI, kI, kI, trivial⟩ ⟨kJ, kJ, kJ, kJ, trivial⟩ rfl rfl ⟨rfl, rfl, trivial⟩
 refine kW ?_
 refine kCf ?_
 refine kW ?_
 refine AK.rega fw0 [.v ((vA (emV)))] (frOf [(4, .ptr 4 0), (5, .int .i64 n), (6, .int .i64 0)]) ⟨boxOf [(4, cM, false), (2000000, cluC 2900001 last fuse false, false), (2900001, [mcA rows], false)], fun _ => 0⟩ ?_ ?_
 ·(repeat' (first | exact trivial | apply And.intro))
  all_goals first | (show _ = _; exact rfl) | (show AC _ _ _ _; exact hc) | exact Weak.introN ⟨kI, kI, kI, trivial⟩ ⟨kJ, kJ, kJ, trivial⟩ rfl rfl ⟨rfl, rfl, trivial⟩
 refine kW ?_
 exact AK.ret ⟨⟨_, rfl, rfl⟩, ⟨_, rfl, rfl⟩, ⟨_, rfl, rfl⟩, trivial⟩
set_option maxHeartbeats 20000000 in
theorem patch_m {rows : List MRow} {a b c : ByteArray} (hk : KeysOk Tryd.prog 31 rows) (h : KeyI a b c) (hi : idOk a b c) (n v : Int) (ho : Found rows (idK a b c) (some (enA n))) (last fuse : Int) (hl : -1000 ≤ last ∧ last ≤ 1000) (hf : -1000 ≤ fuse ∧ fuse ≤ 1000) (h0 : fuse ≠ 0) :
  MS Tryd.prog 15 (cluS 2000000 2900001 rows last fuse false) [.np 2000000 0, .agg (idK a b c), .int .i64 v, (vA (emV))] (if n = v then cluS 2000000 2900001 (putR rows (idK a b c) (enA (last + 1))) (last + 1) (wrF fuse false) false else cluS 2000000 2900001 rows last (wrF fuse false) false) (.int .i64 (if n = v then 0 else 32)) := by
 have hw := wrong_a hi
 have hwr := write_m rows last fuse false hf
 obtain ⟨e1, e2, e3⟩ := wr_live h0
 rw [e1, e3] at hwr
 have hg := (get_m hk h).2 n ho
 have ha := add_a 2
 have hp := put_m hk h last (wrF fuse false) false hl
 refine MS.enter Tryd.func15 a_cluster_Cluster_Patch_ok a_cluster_Cluster_Patch_cb (by rfl) (by rfl) fun E hE => ?_
 show AK _ _ _ [.c b_cluster_Cluster_Patch] _ _
 rw [b_cluster_Cluster_Patch]
 refine kW ?_
 refine kQ [.v (.int .i64 0)] ?_
 refine kW ?_
 refine kCf ?_
 refine kW ?_
 refine kQ [.s [2000000, 2900001] (cluS 2000000 2900001 rows last (wrF fuse false) false) (.int .i64 0)] ?_
 refine kW ?_
 refine kCf ?_
 refine kW ?_
 refine AK.weak (Weak.introN (L := [(0, .np 2000000 0), (2, .int .i64 v), (5, .ptr 5 0), (7, .ptr 7 0)]) (BL := [(5, idK a b c, false), (7, cM, false), (2000000, cluC 2900001 last (wrF fuse false) false, false), (2900001, [mcA rows], false)]) ⟨kI, kI, kI, kI, trivial⟩ ⟨kJ, kJ, kJ, kJ, trivial⟩ rfl rfl ⟨rfl, rfl, trivial⟩) ?_
 refine AK.rega fw0 [.s [2900001] [(2900001, [mcA rows])] (.tup [.agg (enA n), .bool true])] (frOf [(0, .np 2000000 0), (2, .int .i64 v), (5, .ptr 5 0), (7, .ptr 7 0), (11, .ptr 11 0), (12, .bool true)]) ⟨boxOf [(5, idK a b c, false), (7, cM, false), (11, enA n, false), (2000000, cluC 2900001 last (wrF fuse false) false, false), (2900001, [mcA rows], false)], fun _ => 0⟩ ?_ ?_
 ·(repeat' (first | exact trivial | apply And.intro))
  all_goals first | (show _ = _; exact rfl) | (show MOp _ _ _ _ _ _; exact hg) | exact Weak.introN ⟨kI, kI, kI, kI, kI, kI, trivial⟩ ⟨kJ, kJ, kJ, kJ, kJ, trivial⟩ rfl rfl ⟨rfl, rfl, trivial⟩
 refine kW ?_
 refine kCf ?_
 refine kW ?_
 refine kC (fun hb => ?_) fun hb => ?_
 ·have hn : ¬ n = v := by simpa using hb
  rw [if_neg hn, if_neg hn]
  refine kW ?_
  exact AK.ret ⟨⟨_, rfl, rfl⟩, ⟨_, rfl, rfl⟩, ⟨_, rfl, rfl⟩, trivial⟩
 ·have hn : n = v := by simpa using hb
  rw [if_pos hn, if_pos hn]
  refine kW ?_
  refine kQ [.v (.int .i64 0)] ?_
  refine kW ?_
  refine kQ [.s [2000000, 2900001] (cluS 2000000 2900001 (putR rows (idK a b c) (enA (last + 1))) (last + 1) (wrF fuse false) false) (.tup [])] ?_
  refine kW ?_
  exact AK.ret ⟨⟨_, rfl, rfl⟩, ⟨_, rfl, rfl⟩, ⟨_, rfl, rfl⟩, trivial⟩
theorem new_m : MS Tryd.prog 6 [] [npC] [(6, cluC 1900101 0 (-1) false), (1900101, [mcA []])] (.np 6 0) := by
 have hn : MOp Tryd.prog (.new 46) [] [] [(1900101, [mcA []])] (.np 1900101 0) := mop_new rfl
 refine MS.enter Tryd.func6 a_cluster_New_ok a_cluster_New_cb (by rfl) (by rfl) fun E hE => ?_
 show AK _ _ _ [.c b_cluster_New] _ _
 rw [b_cluster_New]
 refine kW ?_
 refine kQ [.s [] [(1900101, [mcA []])] (.np 1900101 0)] ?_
 refine AK.weak (Weak.introN (L := [(2, .ptr 6 0)]) (BL := [(6, cluC 1900101 0 (-1) false, false), (1900101, [mcA []], false)]) ⟨kI, trivial⟩ ⟨⟨_, rfl, .refl _, .refl _, .any .nil 1 [], .refl _, .refl _, .refl _, trivial⟩, kJ, trivial⟩ rfl rfl ⟨rfl, trivial⟩) ?_
 exact AK.ret ⟨⟨_, rfl, rfl⟩, ⟨_, rfl, rfl⟩, ⟨_, rfl, rfl⟩, trivial⟩
def rhoC (i : Nat) : Nat := if i = 2000000 then 1000100 else if i = 1000100 then 2000000 else if i = 2900001 then 1900101 else if i = 1900101 then 2900001 else i
theorem rhoC_inj (i j : Nat) (h : rhoC i = rhoC j) : i = j := by
 unfold rhoC at h
 repeat' split at h
 all_goals omega
theorem rhoC_mp (i : Nat) : isMp (rhoC i) = isMp i := by
 unfold rhoC
 repeat' split
 all_goals first | (subst_vars; rfl) | rfl
def rhoN (i : Nat) : Nat := if i = 6 then 1000100 else if i = 1000100 then 6 else i
theorem rhoN_inj (i j : Nat) (h : rhoN i = rhoN j) : i = j := by
 unfold rhoN at h
 repeat' split at h
 all_goals omega
theorem rhoN_mp (i : Nat) : isMp (rhoN i) = isMp i := by
 unfold rhoN
 repeat' split
 all_goals first | (subst_vars; rfl) | rfl
theorem new_a : MS Tryd.prog 6 [] [npC] (cluS 1000100 1900101 [] 0 (-1) false) (.np 1000100 0) := new_m.ren rhoN rhoN_inj rhoN_mp
theorem putR_nil (κ vc : List AV) : putR [] κ vc = [(κ, vc)] := by
 unfold putR
 rw [if_neg (by simp)]
 rfl
theorem putR_one (κ vc wc : List AV) : putR [(κ, vc)] κ wc = [(κ, wc)] := by
 unfold putR
 rw [if_pos ⟨_, List.mem_singleton.2 rfl, rfl⟩]
 simp
theorem keysOk_nil : KeysOk Tryd.prog 31 [] := fun r h => by cases h
theorem keysOk_one {a b c : ByteArray} (h : KeyI a b c) (vc : List AV) : KeysOk Tryd.prog 31 [(idK a b c, vc)] := fun r hr => by
 rw [List.mem_singleton.1 hr]
 obtain ⟨l, hl⟩ := h
 exact ⟨_, l, keyV_id a b c, hl⟩
theorem keyA : KeyI ⟨#[65]⟩ ⟨#[98]⟩ ⟨#[99]⟩ := by
 have h : (keyOf Tryd.prog 31 (.agg #[.string ⟨#[65]⟩, .string ⟨#[98]⟩, .string ⟨#[99]⟩])).isSome = true := by kernel_rfl
 exact Option.isSome_iff_exists.1 h
theorem okA : idOk ⟨#[65]⟩ ⟨#[98]⟩ ⟨#[99]⟩ := by
 refine ⟨by decide +kernel, by decide, by decide, by decide⟩
abbrev kA0 : List AV := idK ⟨#[65]⟩ ⟨#[98]⟩ ⟨#[99]⟩
theorem awakeCl_a : AC Tryd.prog 5 [] (.bool true) := by
 have hM : AC Tryd.prog 9 [.lst .any 7 []] ((vA (emV))) := treeMap_a [] (by decide +kernel)
 have hN := new_a
 have hC : MS Tryd.prog 8 (cluS 1000100 1900101 [] 0 (-1) false) [.np 1000100 0, .agg kA0, (vA (emV))] (cluS 1000100 1900101 [(kA0, enA 1)] 1 (-1) false) (.int .i64 0) := by
  have h := create_m keysOk_nil keyA okA (rows := []) (fun r hr => by cases hr) 0 (-1) (by omega) (by omega) (by omega)
  rw [putR_nil] at h
  exact h.ren rhoC rhoC_inj rhoC_mp
 have hG : MS Tryd.prog 13 (cluS 1000100 1900101 [(kA0, enA 1)] 1 (-1) false) [.np 1000100 0, .agg kA0] (cluS 1000100 1900101 [(kA0, enA 1)] 1 (-1) false) (.tup [(vA (emV)), .int .i64 1, .int .i64 0]) := by
  exact (getOk_m (keysOk_one keyA _) keyA 1 (List.mem_singleton.2 rfl) 1 (-1)).ren rhoC rhoC_inj rhoC_mp
 have hP : MS Tryd.prog 15 (cluS 1000100 1900101 [(kA0, enA 1)] 1 (-1) false) [.np 1000100 0, .agg kA0, .int .i64 1, (vA (emV))] (cluS 1000100 1900101 [(kA0, enA 2)] 2 (-1) false) (.int .i64 0) := by
  have h := patch_m (keysOk_one keyA (enA 1)) keyA okA 1 1 (List.mem_singleton.2 rfl) 1 (-1) (by omega) (by omega) (by omega)
  rw [putR_one, if_pos rfl, if_pos rfl] at h
  exact h.ren rhoC rhoC_inj rhoC_mp
 have hQ : MS Tryd.prog 15 (cluS 1000100 1900101 [(kA0, enA 2)] 2 (-1) false) [.np 1000100 0, .agg kA0, .int .i64 1, (vA (emV))] (cluS 1000100 1900101 [(kA0, enA 2)] 2 (-1) false) (.int .i64 32) := by
  have h := patch_m (keysOk_one keyA (enA 2)) keyA okA 2 1 (List.mem_singleton.2 rfl) 2 (-1) (by omega) (by omega) (by omega)
  rw [if_neg (by omega), if_neg (by omega)] at h
  exact h.ren rhoC rhoC_inj rhoC_mp
 refine kE Tryd.func5 a_law16_awake_ok a_law16_awake_cb fun E hE => ?_
 refine kW ?_
 refine kQ [.s [] (cluS 1000100 1900101 [] 0 (-1) false) (.np 1000100 0)] ?_
 refine kW ?_
 refine kQ [.v ((vA (emV))), .s [1000100, 1900101] (cluS 1000100 1900101 [(kA0, enA 1)] 1 (-1) false) (.int .i64 0)] ?_
 refine kW ?_
 refine kQ [.s [1000100, 1900101] (cluS 1000100 1900101 [(kA0, enA 1)] 1 (-1) false) (.tup [(vA (emV)), .int .i64 1, .int .i64 0])] ?_
 refine AK.weak (Weak.introN (L := [(1, .np 1000100 0), (2, .ptr 2 0), (3, .int .i64 0), (5, .int .i64 1), (6, .int .i64 0)]) (BL := [(2, kA0, false), (1000100, cluC 1900101 1 (-1) false, false), (1900101, [mcA [(kA0, enA 1)]], false)]) ⟨kI, kI, kI, kI, kI, trivial⟩ ⟨kJ, kJ, kJ, trivial⟩ rfl rfl ⟨rfl, rfl, trivial⟩) ?_
 refine kW ?_
 refine kQ [.v ((vA (emV))), .s [1000100, 1900101] (cluS 1000100 1900101 [(kA0, enA 2)] 2 (-1) false) (.int .i64 0), .v ((vA (emV))), .s [1000100, 1900101] (cluS 1000100 1900101 [(kA0, enA 2)] 2 (-1) false) (.int .i64 32)] ?_
 refine kW ?_
 refine AK.ret ⟨_, rfl, ?_⟩
 rfl
end Go.Proofs.YtdncaodccgfniaaDoor
