/-
  The texts that the claim wants, one behind the other: part 34.
-/
import Derived.Test.YtgidajjjpeboeaaGreatDoorS33
import Derived.Test.YtgidajjjpeboeaaGreatDoorChecked
import Derived.KernelRfl
set_option linter.unusedSimpArgs false
set_option linter.unusedVariables false
namespace Go.Proofs.YtgidajjjpeboeaaGreatDoor
open Go.RowKit Go.Maps Go.MapKept Go.ChangeMaps
theorem MS.hideNil {P : Program} {f : FuncId} {c m : Nat} {cl cl' : Clu} {args : List AV} {r : AV}
  (h : ∀ u : Value, u.oneCell' = true → MS P f (cluU u c m cl) args (cluU u c m cl') r) : MS P f (cluF c m cl (.lst .nil 1 [])) args (cluF c m cl' (.lst .nil 1 [])) r := by
 refine ⟨(h .nilIface rfl).cb, fun σ w B vs hh hg hdom hinj hgl hat hrs => ?_⟩
 obtain ⟨g0, t0, us, hB0, hH0, hR0, hT0, hf0⟩ := hat c _ List.mem_cons_self
 obtain ⟨g1, t1, us1, hB1, hH1, hR1, hT1, hf1⟩ := hat m _ (List.mem_cons_of_mem _ (List.mem_singleton.2 rfl))
 have hlen : us.toList.length = 6 := hR0.1
 obtain ⟨u, hu⟩ : ∃ u, us.toList[2]? = some u := ⟨_, List.getElem?_eq_getElem (by omega)⟩
 have hone : u.oneCell' = true := hR0.one u (List.mem_of_getElem? hu)
 have hnil : Rel1 σ u (.lst .nil 1 []) := hR0.2 2 u _ hu rfl
 have hat1 : BoxesAt σ w B (cluU u c m cl) := fun id cs hm => by
  rcases List.mem_cons.1 hm with hm | hm
  ·cases hm
   refine ⟨g0, t0, us, hB0, hH0, ⟨hR0.1, fun j v a hv ha => ?_⟩, fun j v a hv ha => ?_, hf0⟩
   ·by_cases hj : j = 2
    ·subst hj
     rw [hu] at hv
     cases hv
     cases ha
     exact .raw _ hone
    ·refine hR0.2 j v a hv ?_
     rcases j with _ | _ | _ | _ | _ | _ | j <;> first | exact ha | exact absurd rfl hj
   ·by_cases hj : j = 2
    ·subst hj
     cases ha
     trivial
    ·refine hT0 j v a hv ?_
     rcases j with _ | _ | _ | _ | _ | _ | j <;> first | exact ha | exact absurd rfl hj
  ·rw [List.mem_singleton] at hm
   cases hm
   exact ⟨g1, t1, us1, hB1, hH1, hR1, hT1, hf1⟩
 refine ((h u hone).run σ w B vs hh hg hdom hinj hgl hat1 hrs).mono ?_
 rintro e w' ⟨σ', v, B', he, hx, hho, hb, hd', hi', hat', hr', hrng, hkept⟩
 refine ⟨σ', v, B', he, hx, hho, hb, hd', hi', fun id cs hm => ?_, hr', hrng, hkept⟩
 rcases List.mem_cons.1 hm with hm | hm
 ·cases hm
  obtain ⟨g, t, us', k1, k2, k3, k4, k5⟩ := hat' c _ (List.mem_cons_self)
  have hl' : us'.toList.length = 6 := k3.1
  obtain ⟨u', hu'⟩ : ∃ u', us'.toList[2]? = some u' := ⟨_, List.getElem?_eq_getElem (by omega)⟩
  have hraw : Rel1 σ' u' (.raw u) := k3.2 2 u' _ hu' rfl
  have huu := raw_rel hraw
  subst huu
  refine ⟨g, t, us', k1, k2, ⟨k3.1, fun j v a hv ha => ?_⟩, fun j v a hv ha => ?_, k5⟩
  ·by_cases hj : j = 2
   ·subst hj
    rw [hu'] at hv
    cases hv
    cases ha
    exact hnil.mono hx.1
   ·refine k3.2 j v a hv ?_
    rcases j with _ | _ | _ | _ | _ | _ | j <;> first | exact ha | exact absurd rfl hj
  ·by_cases hj : j = 2
   ·subst hj
    cases ha
    trivial
   ·refine k4 j v a hv ?_
    rcases j with _ | _ | _ | _ | _ | _ | j <;> first | exact ha | exact absurd rfl hj
 ·exact hat' id cs (List.mem_cons_of_mem _ hm)
abbrev fC (l : List Int) (k : Nat) : List AV := (rowsJ l).flatten ++ List.replicate k AV.top
abbrev cluN (c m : Nat) (cl : Clu) : List (Nat × List AV) := cluF c m cl (.lst .nil 1 [])
abbrev cluO (c m q : Nat) (cl : Clu) (i : Nat × Nat) : List (Nat × List AV) := cluF c m cl (.sli q 1 cl.fails.length i.1) ++ [(q, fC cl.fails i.2)]
abbrev FI := Option (Bool × Nat × Nat)
def cluY (c m q q' : Nat) (cl : Clu) : FI → List (Nat × List AV)
 | none => cluN c m cl
 | some (false, i) => cluO c m q cl i
 | some (true, i) => cluO c m q' cl i
def fiOk (cl : Clu) : FI → Prop
 | none => cl.fails = []
 | some (_, i) => cluFI cl.fails i
def wrOk (cl : Clu) (f : FI) : Prop := fiOk cl.write.2 f ∧ (f.map (·.1) = some false → cl.write.1 ≠ 0)
structure CluI (cl : Clu) : Prop where
 k : CluK cl.nf
 fuse : -9223372036854775808 ≤ cl.fuse ∧ cl.fuse ≤ 9223372036854775807
 fails : (∀ n ∈ cl.fails, -9223372036854775808 ≤ n ∧ n ≤ 9223372036854775807) ∧ cl.fails.length ≤ 1000000
theorem CluI.write {cl : Clu} (h : CluI cl) : CluI cl.write.2 := by
 obtain ⟨⟨⟨h1, h2, h3⟩, h4, h5, h6, h7, h8⟩, h9, h10, h11⟩ := h
 unfold Clu.write
 split
 ·exact ⟨⟨⟨h1, h2, h3⟩, h4, h5, h6, h7, h8⟩, h9, h10, h11⟩
 ·refine ⟨⟨⟨h1, h2, h3⟩, h4, h5, h6, h7, h8⟩, ?_, ?_, ?_⟩
  ·dsimp only
   split <;> omega
  ·intro n hn
   obtain ⟨m, hm, rfl⟩ := List.mem_map.1 hn
   obtain ⟨hm1, hm2⟩ := List.mem_filter.1 hm
   have hp : 0 < m := by simpa using hm2
   have := h10 m hm1
   omega
  ·exact Nat.le_trans (leftJ_len cl.fails) h11
theorem write_nil (cl : Clu) (h : cl.fails = []) : cl.write.2.fails = [] := by
 unfold Clu.write
 split
 ·exact h
 ·simp [h]
theorem write_n (cl : Clu) (hk : CluI cl) (h0 : cl.fails = []) : MS Tryz.prog 43 (cluN 2000000 2900001 cl) [.np 2000000 0] (cluN 2000000 2900001 cl.write.2) (.int .i64 cl.write.1) := by
 have hfu := hk.fuse
 obtain ⟨has, last, fails, fuse, down⟩ := cl
 dsimp only at hfu h0
 subst h0
 have hcn : AC Tryz.prog 79 [.lst .any 1 [], .int .i64 0] (.bool false) := contains_j 0 [] (by decide)
 have had := add_a 4
 unfold Clu.write
 refine MS.enter Tryz.func43 a_cluster_Cluster_writeW_ok a_cluster_Cluster_writeW_cb (by rfl) (by rfl) fun E hE => ?_
 show AK _ _ _ [.c b_cluster_Cluster_writeW] _ _
 rw [b_cluster_Cluster_writeW]
 cases down with
 | true =>
  rw [if_pos (by rfl)]
  refine kW ?_
  refine kP [] ?_ ?_
  ·((repeat' apply And.intro) <;> first | exact kD | (intro hgd; refine ⟨?_, kG⟩; (repeat' apply And.intro) <;> first | exact kD | skip) | skip)
   ·exact fun g o => someClu false g o
  refine kCf ?_
  refine kW ?_
  refine kQ [] ?_
  refine kCt ?_
  refine kW ?_
  exact AK.ret ⟨⟨_, rfl, rfl⟩, ⟨_, rfl, rfl⟩, ⟨_, rfl, rfl⟩, trivial⟩
 | false =>
  refine kW ?_
  refine kP [] ?_ ?_
  ·((repeat' apply And.intro) <;> first | exact kD | (intro hgd; refine ⟨?_, kG⟩; (repeat' apply And.intro) <;> first | exact kD | skip) | skip)
   ·exact fun g o => someClu false g o
  refine kCf ?_
  refine kW ?_
  refine kQ [] ?_
  refine kC (fun hb => ?_) fun hb => ?_
  ·have hf0 : fuse = 0 := by simpa using hb
   rw [if_pos (by simp [hf0])]
   refine kW ?_
   exact AK.ret ⟨⟨_, rfl, rfl⟩, ⟨_, rfl, rfl⟩, ⟨_, rfl, rfl⟩, trivial⟩
  ·have hf0 : fuse ≠ 0 := by simpa using hb
   rw [if_neg (by simp [hf0])]
   clear hb
   refine kW ?_
   refine AK.cut (frOf [(0, .np 2000000 0)]) ⟨boxOf [(2000000, [.np 2900001 0, .int .i64 last, .lst .nil 1 [], .int .i64 (if 0 < fuse then fuse - 1 else fuse), .bool false, npC], false), (2900001, [mcA (rowsE has)], false)], fun _ => 0⟩ ?_ ?_
   ·refine kC (fun hb => ?_) fun hb => ?_
    ·have hl : 0 < fuse := by simpa using hb
     rw [if_pos hl, show fuse - 1 = IntKind.i64.wrap (fuse - 1) from (wrap_in (by omega) (by omega)).symm]
     refine kW ?_
     exact AK.cutEnd (Weak.introN ⟨kI, trivial⟩ ⟨kJ, kJ, trivial⟩ rfl rfl ⟨rfl, rfl, trivial⟩)
    ·have hl : ¬ 0 < fuse := by simpa using hb
     rw [if_neg hl]
     refine kW ?_
     exact AK.cutEnd (Weak.introN ⟨kI, trivial⟩ ⟨kJ, kJ, trivial⟩ rfl rfl ⟨rfl, rfl, trivial⟩)
   generalize hfq : (if 0 < fuse then fuse - 1 else fuse) = fq
   refine kW ?_
   refine kQ [.v (.bool false)] ?_
   refine kW ?_
   refine AK.loopI (fun _ : Unit => (frOf [(0, .np 2000000 0), (3, .bool false), (4, .lst .nil 1 []), (46, .lst .nil 1 []), (47, .int .i64 0), (48, .int .i64 0)], ⟨boxOf [(2000000, [.np 2900001 0, .int .i64 last, .lst .nil 1 [], .int .i64 fq, .bool false, npC], false), (2900001, [mcA (rowsE has)], false)], fun _ => 0⟩))
    (fun _ => True) (fun _ => 0) () trivial (Weak.introN ⟨kI, kI, kI, kI, kI, kI, trivial⟩ ⟨kJ, kJ, trivial⟩ rfl rfl ⟨rfl, rfl, trivial⟩) fun _ _ => ?_
   refine kW ?_
   refine kCf ?_
   refine AK.exit rfl ?_
   refine kW ?_
   refine kCf ?_
   refine kW ?_
   exact AK.ret ⟨⟨_, rfl, rfl⟩, ⟨_, rfl, rfl⟩, ⟨_, rfl, rfl⟩, trivial⟩
theorem Weak.trans {f1 f2 f3 : Fr} {s1 s2 s3 : St} (h : Weak f1 s1 f2 s2) (h' : Weak f2 s2 f3 s3) : Weak f1 s1 f3 s3 := fun E G a w hC => by
 obtain ⟨G', hC'⟩ := h E G a w hC
 exact h' E G' a w hC'
abbrev wrB (has : List CEnt) (last fq : Int) (fails : List Int) : List (Nat × List AV × Bool) := [(2000000, [.np 2900001 0, .int .i64 last, .lst .any 1 (rowsJ fails), .int .i64 fq, .bool false, npC], false), (2900001, [mcA (rowsE has)], false)]
def wrJ (has : List CEnt) (last fq : Int) (fails : List Int) : Nat × Option (Nat × Nat) → Fr × St
 | (k, none) => (frOf [(0, .np 2000000 0), (3, .bool (decide (0 ∈ fails))), (4, .lst .nil 1 []), (46, .lst .any 1 (rowsJ fails)), (47, .int .i64 (rowsJ fails).length), (48, .int .i64 k)], ⟨boxOf (wrB has last fq fails), fun _ => 0⟩)
 | (k, some (cap, m)) => (frOf [(0, .np 2000000 0), (3, .bool (decide (0 ∈ fails))), (4, .sli 1000001 1 (leftJ (fails.take k)).length cap), (46, .lst .any 1 (rowsJ fails)), (47, .int .i64 (rowsJ fails).length), (48, .int .i64 k)], ⟨boxOf (wrB has last fq fails ++ [(1000001, fC (leftJ (fails.take k)) m, false)]), fun _ => 0⟩)
def wrI (fails : List Int) : Nat × Option (Nat × Nat) → Prop
 | (k, none) => k ≤ fails.length ∧ leftJ (fails.take k) = []
 | (k, some i) => k ≤ fails.length ∧ cluFI (leftJ (fails.take k)) i
theorem write_o (cl : Clu) (hk : CluI cl) (i : Nat × Nat) (hi : cluFI cl.fails i) : MSX Tryz.prog 43 (cluO 2000000 2900001 2000001 cl i) [.np 2000000 0] (wrOk cl) (cluY 2000000 2900001 2000001 1000001 cl.write.2) (fun _ => .int .i64 cl.write.1) := by
 unfold wrOk
 have hfu := hk.fuse
 have hfa := hk.fails
 obtain ⟨has, last, fails, fuse, down⟩ := cl
 obtain ⟨cap, sp⟩ := i
 dsimp only at hfu hfa hi
 have hcn := contains_j 0 fails hfa.2
 have had := add_a 4
 have hll := leftJ_len fails
 have hCr := RowCs.mk_ (rowsJ_ok fails) (cap := cap) (m := sp) (by rw [rowsJ_len]; exact hi.1) hi.2
 refine MSX.enter Tryz.func43 a_cluster_Cluster_writeW_ok a_cluster_Cluster_writeW_cb (by rfl) ?_ fun E hE => ?_
 ·unfold okInS
  show (true && (true && (((rowsJ fails).flatten ++ List.replicate sp AV.top).all AV.okIn && true)) && true) = true
  rw [all_rowsJ (fun _ => rfl) rfl]
  rfl
 show AK _ _ _ [.c b_cluster_Cluster_writeW] _ _
 rw [b_cluster_Cluster_writeW]
 unfold Clu.write
 cases down with
 | true =>
  rw [if_pos (by rfl)]
  refine kW ?_
  refine kP [] ?_ ?_
  ·((repeat' apply And.intro) <;> first | exact kD | (intro hgd; refine ⟨?_, kG⟩; (repeat' apply And.intro) <;> first | exact kD | skip) | skip)
   ·exact fun g o => someClu false g o
  refine kCf ?_
  refine kW ?_
  refine kQ [] ?_
  refine kCt ?_
  refine kW ?_
  exact AK.ret ⟨some (false, cap, sp), ⟨hi, fun _ => (by show (31 : Int) ≠ 0; decide)⟩, ⟨_, rfl, rfl⟩, ⟨_, rfl, rfl⟩, ⟨_, rfl, rfl⟩, ⟨_, rfl, told_rowsJ _ _⟩, trivial⟩
 | false =>
  refine kW ?_
  refine kP [] ?_ ?_
  ·((repeat' apply And.intro) <;> first | exact kD | (intro hgd; refine ⟨?_, kG⟩; (repeat' apply And.intro) <;> first | exact kD | skip) | skip)
   ·exact fun g o => someClu false g o
  refine kCf ?_
  refine kW ?_
  refine kQ [] ?_
  refine kC (fun hb => ?_) fun hb => ?_
  ·have hf0 : fuse = 0 := by simpa using hb
   rw [if_pos (by simp [hf0])]
   refine kW ?_
   exact AK.ret ⟨some (false, cap, sp), ⟨hi, fun _ => (by show (31 : Int) ≠ 0; decide)⟩, ⟨_, rfl, rfl⟩, ⟨_, rfl, rfl⟩, ⟨_, rfl, rfl⟩, ⟨_, rfl, told_rowsJ _ _⟩, trivial⟩
  ·have hf0 : fuse ≠ 0 := by simpa using hb
   rw [if_neg (by simp [hf0])]
   clear hb
   refine kW ?_
   refine AK.cut (frOf [(0, .np 2000000 0)]) ⟨boxOf [(2000000, [.np 2900001 0, .int .i64 last, .lst .any 1 (rowsJ fails), .int .i64 (if 0 < fuse then fuse - 1 else fuse), .bool false, npC], false), (2900001, [mcA (rowsE has)], false)], fun _ => 0⟩ ?_ ?_
   ·have hle : ∀ s : St, s.box 2000001 = some (((rowsJ fails).flatten ++ List.replicate sp AV.top), true) → True := fun _ _ => trivial
    refine kC (fun hb => ?_) fun hb => ?_
    ·have hl : 0 < fuse := by simpa using hb
     rw [if_pos hl, show fuse - 1 = IntKind.i64.wrap (fuse - 1) from (wrap_in (by omega) (by omega)).symm]
     refine kW ?_
     refine AK.cutEnd (Weak.trans (Weak.fz (id := 2000001) rfl rfl) (Weak.introN ⟨kI, trivial⟩ ⟨⟨_, rfl, .refl _, .refl _, ?_, .refl _, .refl _, .refl _, trivial⟩, kJ, trivial⟩ rfl rfl ⟨rfl, rfl, trivial⟩))
     have hn := rowsJ_len fails
     show AVle1 _ (.sli 2000001 1 fails.length cap) _
     rw [← hn]
     exact hCr.le rfl
    ·have hl : ¬ 0 < fuse := by simpa using hb
     rw [if_neg hl]
     refine kW ?_
     refine AK.cutEnd (Weak.trans (Weak.fz (id := 2000001) rfl rfl) (Weak.introN ⟨kI, trivial⟩ ⟨⟨_, rfl, .refl _, .refl _, ?_, .refl _, .refl _, .refl _, trivial⟩, kJ, trivial⟩ rfl rfl ⟨rfl, rfl, trivial⟩))
     have hn := rowsJ_len fails
     show AVle1 _ (.sli 2000001 1 fails.length cap) _
     rw [← hn]
     exact hCr.le rfl
   generalize hfq : (if 0 < fuse then fuse - 1 else fuse) = fq
   change AK _ _ (RQX _ (fun f => fiOk ⟨has, last, leftJ fails, fq, false⟩ f ∧ (f.map (·.1) = some false → (if (0 : Int) ∈ fails then (30 : Int) else 0) ≠ 0)) (cluY 2000000 2900001 2000001 1000001 ⟨has, last, leftJ fails, fq, false⟩) (fun _ => .int .i64 (if (0 : Int) ∈ fails then 30 else 0))) _ _ _
   refine kW ?_
   refine kQ [.v (.bool (decide (0 ∈ fails)))] ?_
   refine kW ?_
   refine AK.loopG (wrJ has last fq fails) (wrI fails) (fun i => fails.length - i.1) (0, none) ⟨Nat.zero_le _, rfl⟩ (Weak.introN ⟨kI, kI, kI, kI, kI, kI, trivial⟩ ⟨kJ, kJ, trivial⟩ rfl rfl ⟨rfl, rfl, trivial⟩) fun ⟨k, o⟩ hI => ?_
   rcases o with _ | ⟨cap, m⟩
   ·obtain ⟨hk, hI⟩ := hI
    show AK _ _ _ _ (frOf _) _
    refine kW ?_
    refine kC (fun hb => ?_) fun hb => ?_
    ·have hlt : k < fails.length := by simpa [rowsJ_len] using hb
     obtain ⟨n, hg⟩ : ∃ x, fails[k]? = some x := ⟨_, List.getElem?_eq_getElem hlt⟩
     have hnb := hfa.1 n (List.mem_of_getElem? hg)
     have hst := leftJ_take hg
     clear hb
     refine kW ?_
     refine kP [.c [.int .i64 n]] ?_ ?_
     ·((repeat' apply And.intro) <;> first | exact kD | (intro hgd; refine ⟨?_, kG⟩; (repeat' apply And.intro) <;> first | exact kD | skip) | skip)
      all_goals exact rowsJ_at hg
     refine kW ?_
     refine kC (fun hb => ?_) fun hb => ?_
     ·have hn : 0 < n := by simpa using hb
      rw [if_pos hn, hI, List.nil_append, show n - 1 = IntKind.i64.wrap (n - 1) from (wrap_in (by omega) (by omega)).symm] at hst
      clear hb
      refine kW ?_
      refine kP [.m [] []] ?_ ?_
      ·(repeat' apply And.intro) <;> first | exact kD | exact ⟨_, rfl⟩ | (simp only [List.length_cons, List.length_nil]; omega)
      refine kW ?_
      refine AK.lp (LQ_open 4 58 1000001 rfl (by omega) rfl fun cap' m' h1 h2 => ⟨(k + 1, some (cap', m')), ⟨by omega, ?_⟩, by dsimp only; omega, ?_⟩)
      ·rw [hst]
       exact ⟨h1, h2⟩
      ·exact Weak.introN ⟨kI, kI, ⟨_, rfl, .of_eq (by rw [hst]; rfl)⟩, kI, kI, kU, trivial⟩ ⟨kJ, kJ, ⟨_, rfl, leL_of_eq (by rw [hst]; rfl)⟩, trivial⟩ rfl rfl ⟨rfl, rfl, all_rowsJ (fun _ => rfl) rfl _ _, trivial⟩
     ·have hn : ¬ 0 < n := by simpa using hb
      rw [if_neg hn, List.append_nil] at hst
      clear hb
      refine kW ?_
      refine AK.lp (LQ_weak (k + 1, none) ⟨by omega, by rw [hst, hI]⟩ (by dsimp only; omega) ?_)
      exact Weak.introN ⟨kI, kI, kI, kI, kI, kU, trivial⟩ ⟨kJ, kJ, trivial⟩ rfl rfl ⟨rfl, rfl, trivial⟩
    ·have hlt : k = fails.length := by
      have : fails.length ≤ k := by simpa [rowsJ_len] using hb
      omega
     subst hlt
     rw [List.take_length] at hI
     clear hb
     refine AK.exit rfl ?_
     rw [hI]
     refine kW ?_
     by_cases h0 : (0 : Int) ∈ fails
     ·rw [decide_eq_true h0, if_pos h0]
      refine kCt ?_
      refine kW ?_
      refine kQ [.v (.int .i64 0)] ?_
      refine kW ?_
      exact AK.ret ⟨none, ⟨rfl, fun h => by cases h⟩, ⟨_, rfl, rfl⟩, ⟨_, rfl, rfl⟩, ⟨_, rfl, rfl⟩, trivial⟩
     ·rw [decide_eq_false h0, if_neg h0]
      refine kCf ?_
      refine kW ?_
      exact AK.ret ⟨none, ⟨rfl, fun h => by cases h⟩, ⟨_, rfl, rfl⟩, ⟨_, rfl, rfl⟩, ⟨_, rfl, rfl⟩, trivial⟩
   ·obtain ⟨hk, hI⟩ := hI
    show AK _ _ _ _ (frOf _) _
    refine kW ?_
    refine kC (fun hb => ?_) fun hb => ?_
    ·have hlt : k < fails.length := by simpa [rowsJ_len] using hb
     obtain ⟨n, hg⟩ : ∃ x, fails[k]? = some x := ⟨_, List.getElem?_eq_getElem hlt⟩
     have hnb := hfa.1 n (List.mem_of_getElem? hg)
     have hst := leftJ_take hg
     have hfl := leftJ_len (fails.take k)
     rw [List.length_take] at hfl
     clear hb
     refine kW ?_
     refine kP [.c [.int .i64 n]] ?_ ?_
     ·((repeat' apply And.intro) <;> first | exact kD | (intro hgd; refine ⟨?_, kG⟩; (repeat' apply And.intro) <;> first | exact kD | skip) | skip)
      all_goals exact rowsJ_at hg
     refine kW ?_
     refine kC (fun hb => ?_) fun hb => ?_
     ·have hn : 0 < n := by simpa using hb
      rw [if_pos hn, show n - 1 = IntKind.i64.wrap (n - 1) from (wrap_in (by omega) (by omega)).symm] at hst
      clear hb
      refine kW ?_
      refine kP [.m (rowsJ (leftJ (fails.take k))) []] ?_ ?_
      ·(repeat' apply And.intro) <;> first | exact kD | exact ⟨_, rfl⟩ | exact hI.2 | exact (rowsJ_ok _).2 | exact (rowsJ_ok _).1 | exact (rowsJ_len _).symm | (rw [rowsJ_len]; simp only [List.length_cons, List.length_nil]; omega)
      refine kW ?_
      have hsn : rowsJ (leftJ (fails.take k)) ++ [[AV.int .i64 (IntKind.i64.wrap (n - 1))]] = rowsJ (leftJ (fails.take (k + 1))) := by rw [hst, rowsJ_snoc]
      refine AK.lp (LQ_open 4 58 1000001 rfl (by omega) rfl fun cap' m' h1 h2 => ⟨(k + 1, some (cap', m')), ⟨by omega, ?_⟩, by dsimp only; omega, ?_⟩)
      ·have h1' : (rowsJ (leftJ (fails.take k)) ++ [[AV.int .i64 (IntKind.i64.wrap (n - 1))]]).length ≤ cap' := h1
       have h2' : ((rowsJ (leftJ (fails.take k)) ++ [[AV.int .i64 (IntKind.i64.wrap (n - 1))]]).flatten ++ List.replicate m' AV.top).length = cap' * 1 := h2
       rw [hsn] at h1' h2'
       rw [rowsJ_len] at h1'
       exact ⟨h1', h2'⟩
      ·refine Weak.introN ⟨kI, kI, ⟨_, rfl, .of_eq ?_⟩, kI, kI, kU, trivial⟩ ⟨kJ, kJ, ⟨_, rfl, leL_of_eq ?_⟩, trivial⟩ rfl rfl ⟨rfl, rfl, all_rowsJ (fun _ => rfl) rfl _ _, trivial⟩
       ·show AV.sli 1000001 1 (rowsJ (leftJ (fails.take k)) ++ [[AV.int .i64 (IntKind.i64.wrap (n - 1))]]).length cap' = _
        rw [hsn, rowsJ_len]
       ·show (rowsJ (leftJ (fails.take k)) ++ [[AV.int .i64 (IntKind.i64.wrap (n - 1))]]).flatten ++ List.replicate m' AV.top = _
        rw [hsn]
     ·have hn : ¬ 0 < n := by simpa using hb
      rw [if_neg hn, List.append_nil] at hst
      clear hb
      refine kW ?_
      refine AK.lp (LQ_weak (k + 1, some (cap, m)) ⟨by omega, by rw [hst]; exact hI⟩ (by dsimp only; omega) ?_)
      exact Weak.introN ⟨kI, kI, ⟨_, rfl, .of_eq (by rw [hst])⟩, kI, kI, kU, trivial⟩ ⟨kJ, kJ, ⟨_, rfl, leL_of_eq (by rw [hst])⟩, trivial⟩ rfl rfl ⟨rfl, rfl, all_rowsJ (fun _ => rfl) rfl _ _, trivial⟩
    ·have hlt : k = fails.length := by
      have : fails.length ≤ k := by simpa [rowsJ_len] using hb
      omega
     subst hlt
     rw [List.take_length] at hI
     clear hb
     refine AK.exit rfl ?_
     have hbx : ((fC (leftJ (fails.take fails.length)) m)).map AV.told = fC (leftJ fails) m := by rw [List.take_length]; exact told_rowsJ _ _
     rw [List.take_length]
     refine kW ?_
     by_cases h0 : (0 : Int) ∈ fails
     ·rw [decide_eq_true h0, if_pos h0]
      refine kCt ?_
      refine kW ?_
      refine kQ [.v (.int .i64 0)] ?_
      refine kW ?_
      exact AK.ret ⟨some (true, cap, m), ⟨hI, fun h => by cases h⟩, ⟨_, rfl, rfl⟩, ⟨_, rfl, rfl⟩, ⟨_, rfl, rfl⟩, ⟨_, rfl, hbx⟩, trivial⟩
     ·rw [decide_eq_false h0, if_neg h0]
      refine kCf ?_
      refine kW ?_
      exact AK.ret ⟨some (true, cap, m), ⟨hI, fun h => by cases h⟩, ⟨_, rfl, rfl⟩, ⟨_, rfl, rfl⟩, ⟨_, rfl, rfl⟩, ⟨_, rfl, hbx⟩, trivial⟩
end Go.Proofs.YtgidajjjpeboeaaGreatDoor
namespace Go.Proofs.YtgidajjjpeboeaaGreatDoor
set_option maxRecDepth 100000
def b_cluster_Cluster_CreateX : ACode :=
 .seq (gQ [gP 4 1, gP 5 2, gJ 6 0]) (.seq (.seq (gQ [gA 11 3 4, gA 12 6 5, gC 13 42 [.s 11, .s 12], gM 7 13]) (.seq (gQ [gM 14 7, gU 15 .neq 14 0]) (.cond (.s 15) (.seq (gQ [gM 16 7, gM 6 16]) .ret) .skip))) (.seq (.seq (.regs [gM 17 0, ⟨gO, .calls (some 18) (.k (.fn 43 [])) [.s 17]⟩, gM 8 18]) (.seq (gQ [gM 19 8, gU 20 .neq 19 0]) (.cond (.s 20) (.seq (gQ [gM 21 8, gM 6 21]) .ret) .skip))) (.seq (.seq (.rega [gM 23 0, gF 24 0 23, gF 25 0 24, gL 26 25, gA 27 3 4, ⟨gO, .mop (MO.get 68 true) (some 28) [.s 26, .s 27]⟩, gM 22 28, gX 29 0 22, gX 30 1 22, ⟨gO, .alloc 9 [.int .i64 0, .bool false, .int .i64 0, .str ⟨#[]⟩, .lst .nil 6 [], .lst .nil 7 [], .int .i64 0]⟩, gT 7 9 29, gM 10 30] [[], [0], [1], [2], [], [3, 4], [5], [6], [6], [], [9, 7, 0, 1, 2, 3, 4, 5, 6, 7, 9], [8, 10, 0, 1, 2, 3, 4, 5, 6, 7, 8, 9, 10]]) (.seq (gQ [gM 31 10]) (.cond (.s 31) (.seq (gQ [gJ 6 4]) .ret) .skip))) (.seq (gQ [gM 32 0, gF 33 0 32, gF 34 5 33, gL 35 34, gC 36 44 [.s 35, gI 1]]) (.seq (gQ [gM 37 0, gA 38 3 4, gA 39 6 5, ⟨gO, .calls (some 40) (.k (.fn 45 [])) [.s 37, .s 38, .s 39]⟩]) (.seq (gQ [gJ 6 0]) .ret))))))
def a_cluster_Cluster_CreateX : AFn := ⟨3, 41, b_cluster_Cluster_CreateX, [.tmp 6]⟩
theorem a_cluster_Cluster_CreateX_ok : fnAF Tryz.prog [2000043, 2000045, 5000004] Tryz.f12 = some a_cluster_Cluster_CreateX := by kernel_rfl
theorem a_cluster_Cluster_CreateX_cb : callable Tryz.prog 12 = true := by kernel_rfl
def b_cluster_Cluster_PatchX : ACode :=
 .seq (gQ [gP 5 1, gP 7 3, gJ 8 0]) (.seq (.seq (gQ [gA 13 3 5, gA 14 6 7, gC 15 42 [.s 13, .s 14], gM 9 15]) (.seq (gQ [gM 16 9, gU 17 .neq 16 0]) (.cond (.s 17) (.seq (gQ [gM 18 9, gM 8 18]) .ret) .skip))) (.seq (.seq (.regs [gM 19 0, ⟨gO, .calls (some 20) (.k (.fn 43 [])) [.s 19]⟩, gM 10 20]) (.seq (gQ [gM 21 10, gU 22 .neq 21 0]) (.cond (.s 22) (.seq (gQ [gM 23 10, gM 8 23]) .ret) .skip))) (.seq (.rega [gM 25 0, gF 26 0 25, gF 27 0 26, gL 28 27, gA 29 3 5, ⟨gO, .mop (MO.get 68 true) (some 30) [.s 28, .s 29]⟩, gM 24 30, gX 31 0 24, gX 32 1 24, ⟨gO, .alloc 11 [.int .i64 0, .bool false, .int .i64 0, .str ⟨#[]⟩, .lst .nil 6 [], .lst .nil 7 [], .int .i64 0]⟩, gT 7 11 31, gM 12 32] [[], [0], [1], [2], [], [3, 4], [5], [6], [6], [], [9, 7, 0, 1, 2, 3, 4, 5, 6, 7, 9], [8, 10, 0, 1, 2, 3, 4, 5, 6, 7, 8, 9, 10]]) (.seq (.block 0 (.seq (gQ [gM 34 12, ⟨gO, .un 35 .not (.s 34)⟩, gM 33 35]) (.cond (.s 33) (.seq (gQ [gJ 8 3]) .ret) (.seq (gQ [gF 37 6 11, gL 38 37, gM 39 2, gV 40 .neq 38 39, gM 36 40]) (.cond (.s 36) (.seq (gQ [gJ 8 32]) .ret) .skip))))) (.seq (gQ [gM 41 0, gF 42 0 41, gF 43 5 42, gL 44 43, gC 45 44 [.s 44, gI 2]]) (.seq (gQ [gM 46 0, gA 47 3 5, gA 48 6 7, ⟨gO, .calls (some 49) (.k (.fn 45 [])) [.s 46, .s 47, .s 48]⟩]) (.seq (gQ [gJ 8 0]) .ret)))))))
def a_cluster_Cluster_PatchX : AFn := ⟨4, 50, b_cluster_Cluster_PatchX, [.tmp 8]⟩
theorem a_cluster_Cluster_PatchX_ok : fnAF Tryz.prog [2000043, 2000045, 5000004] Tryz.f13 = some a_cluster_Cluster_PatchX := by kernel_rfl
theorem a_cluster_Cluster_PatchX_cb : callable Tryz.prog 13 = true := by kernel_rfl
end Go.Proofs.YtgidajjjpeboeaaGreatDoor
namespace Go.Proofs.YtgidajjjpeboeaaGreatDoor
set_option maxRecDepth 100000
def b_cluster_Cluster_DeleteX : ACode :=
 .seq (gQ [gP 3 1, gJ 4 0]) (.seq (.seq (.regs [gM 8 0, ⟨gO, .calls (some 9) (.k (.fn 43 [])) [.s 8]⟩, gM 5 9]) (.seq (gQ [gM 10 5, gU 11 .neq 10 0]) (.cond (.s 11) (.seq (gQ [gM 12 5, gM 4 12]) .ret) .skip))) (.seq (.seq (.rega [gM 14 0, gF 15 0 14, gF 16 0 15, gL 17 16, gA 18 3 3, ⟨gO, .mop (MO.get 68 true) (some 19) [.s 17, .s 18]⟩, gM 13 19, gX 20 0 13, gX 21 1 13, ⟨gO, .alloc 6 [.int .i64 0, .bool false, .int .i64 0, .str ⟨#[]⟩, .lst .nil 6 [], .lst .nil 7 [], .int .i64 0]⟩, gT 7 6 20, gM 7 21] [[], [0], [1], [2], [], [3, 4], [5], [6], [6], [], [9, 7, 0, 1, 2, 3, 4, 5, 6, 7, 9], [8, 10, 0, 1, 2, 3, 4, 5, 6, 7, 8, 9, 10]]) (.seq (gQ [gM 22 7, ⟨gO, .un 23 .not (.s 22)⟩]) (.cond (.s 23) (.seq (gQ [gJ 4 3]) .ret) .skip))) (.seq (gQ [gM 24 0, gF 25 0 24, gF 26 5 25, gL 27 26, gC 28 44 [.s 27, gI 3]]) (.seq (gQ [gM 29 0, gF 30 0 29, gF 31 0 30, gL 32 31, gA 33 3 3, ⟨gO, .mop (MO.del 68 24 0) none [.s 32, .s 33]⟩]) (.seq (gQ [gJ 4 0]) .ret)))))
def a_cluster_Cluster_DeleteX : AFn := ⟨2, 34, b_cluster_Cluster_DeleteX, [.tmp 4]⟩
theorem a_cluster_Cluster_DeleteX_ok : fnAF Tryz.prog [2000043, 2000045, 5000001] Tryz.f14 = some a_cluster_Cluster_DeleteX := by kernel_rfl
theorem a_cluster_Cluster_DeleteX_cb : callable Tryz.prog 14 = true := by kernel_rfl
end Go.Proofs.YtgidajjjpeboeaaGreatDoor
