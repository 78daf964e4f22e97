/-
  The texts that the claim wants, one behind the other: part 36.
-/
import Derived.Test.YtdncaodccgfniaaDoorS35
set_option linter.unusedSimpArgs false
set_option linter.unusedVariables false
namespace Go.Proofs.YtdncaodccgfniaaDoor
open Go.RowKit Go.Maps Go.MapKept Go.ChangeMaps
def rowsW (l : List Nat) : List (List AV) := l.map fun (n : Nat) => [.int .u8 n]
theorem rowsW_len (l : List Nat) : (rowsW l).length = l.length := List.length_map _
theorem rowsW_at {l : List Nat} {k : Nat} {n : Nat} (h : l[k]? = some n) : (rowsW l)[k]? = some [.int .u8 n] := by simp [rowsW, h]
def sndC : ACode → ACode
 | .seq _ b => b
 | a => a
theorem Weak.trans {f1 f2 f3 : Fr} {s1 s2 s3 : St} (h : Weak f1 s1 f2 s2) (h' : Weak f2 s2 f3 s3) : Weak f1 s1 f3 s3 := fun E G a w hC => by
 obtain ⟨G', hC'⟩ := h E G a w hC
 exact h' E G' a w hC'
abbrev badB (d : List Int) : Nat × List AV × Bool := (1900102, [mcA (rowsB d)], false)
abbrev cluBA : List (Nat × List AV × Bool) := [(1000100, [.np 1900101 0, .int .i64 0, .lst .nil 1 [], .int .i64 (-1), .bool false, npC], false), (1900101, [mcA []], false)]
abbrev cluBB (q : Nat) (l : List Int) (cap m : Nat) : List (Nat × List AV × Bool) := [(1000100, [.np 1900101 0, .int .i64 0, .sli q 1 l.length cap, .int .i64 (-1), .bool false, npC], false), (1900101, [mcA []], false), (q, (rowsJ l).flatten ++ List.replicate m AV.top, false)]
def failJ (l : List Nat) (ns : Nat) : Nat × Option (Bool × Nat × Nat) → Fr × St
 | (k, none) => (frOf [(1, .int .u8 ns), (5, .np 1000100 0), (6, .np 1900102 0), (18, .lst .any 1 (rowsW l)), (19, .int .i64 (rowsW l).length), (20, .int .i64 k)], ⟨boxOf (badB (badL (fsI (l.take k))) :: cluBA), fun _ => 0⟩)
 | (k, some (false, cap, m)) => (frOf [(1, .int .u8 ns), (5, .np 1000100 0), (6, .np 1900102 0), (18, .lst .any 1 (rowsW l)), (19, .int .i64 (rowsW l).length), (20, .int .i64 k)], ⟨boxOf (badB (badL (fsI (l.take k))) :: cluBB 1000101 (fsI (l.take k)) cap m), fun _ => 0⟩)
 | (k, some (true, cap, m)) => (frOf [(1, .int .u8 ns), (5, .np 1000100 0), (6, .np 1900102 0), (18, .lst .any 1 (rowsW l)), (19, .int .i64 (rowsW l).length), (20, .int .i64 k)], ⟨boxOf (badB (badL (fsI (l.take k))) :: cluBB 1000102 (fsI (l.take k)) cap m), fun _ => 0⟩)
def failI (l : List Nat) : Nat × Option (Bool × Nat × Nat) → Prop
 | (k, none) => k = 0
 | (k, some (_, cap, m)) => k ≤ l.length ∧ cluFI (fsI (l.take k)) (cap, m)
set_option maxHeartbeats 2000000 in
theorem clusterFails_head (l : List Nat) (ns : Nat) (hl : l.length ≤ 20) (tail : ∀ E : Env, E.n = a_law16_ClusterFailsX.n → AK Tryd.prog E (RQ a_law16_ClusterFailsX.res (.bool true)) [.c (sndC (sndC (sndC (sndC (sndC (sndC b_law16_ClusterFailsX))))))] (frOf [(1, .int .u8 ns), (5, .np 1000100 0), (6, .np 1900102 0)]) ⟨boxOf [badB (badL (fsI l)), (1000100, [.np 1900101 0, .int .i64 0, .lst .any 1 (rowsJ (fsI l ++ [-1])), .int .i64 (-1), .bool false, npC], false), (1900101, [mcA []], false)], fun _ => 0⟩) : AC Tryd.prog 3 [.lst .any 1 (rowsW l), .int .u8 ns] (.bool true) := by
 have hA := awakeCl_a
 refine kE Tryd.func3 a_law16_ClusterFailsX_ok a_law16_ClusterFailsX_cb fun E hE => ?_
 show AK _ _ _ [.c b_law16_ClusterFailsX] _ _
 rw [b_law16_ClusterFailsX]
 refine kW ?_
 refine kC (fun hb => ?_) fun hb => ?_
 ·have hb2 : (l.length : Int) > 20 := by simpa [rowsW_len] using hb
  omega
 clear hb
 have hmn : MOp Tryd.prog (.new 26) [] [] [(1900102, [mcA []])] (.np 1900102 0) := mop_new rfl
 refine kW ?_
 refine kP [.s [] (cluFA 1000100 1900101 [] 0 (-1) false) (.np 1000100 0)] ?_ ?_
 ·((repeat' apply And.intro) <;> first | exact kD | (intro hgd; refine ⟨?_, kG⟩; (repeat' apply And.intro) <;> first | exact kD | skip) | skip)
  ·exact newN_a
 refine kW ?_
 refine kQ [.s [] [(1900102, [mcA []])] (.np 1900102 0)] ?_
 refine kW ?_
 refine AK.loopI (failJ l ns) (failI l) (fun i => l.length - i.1) (0, none) rfl (Weak.introN ⟨kI, kI, kI, kI, kI, kI, trivial⟩ ⟨kJ, kJ, kJ, trivial⟩ rfl rfl ⟨rfl, rfl, rfl, trivial⟩) fun ⟨k, fo⟩ hI => ?_
 rcases fo with _ | ⟨b, cap, m⟩
 ·have hk0 : k = 0 := hI
  subst hk0
  show AK _ _ _ _ (frOf _) _
  refine kW ?_
  refine kC (fun hb => ?_) fun hb => ?_
  ·have hlt : 0 < l.length := by simpa [rowsW_len] using hb
   obtain ⟨n, hg⟩ : ∃ x, l[0]? = some x := ⟨_, List.getElem?_eq_getElem hlt⟩
   have hv : IntKind.i64.wrap ((n : Int).tmod 40) = ((n % 40 : Nat) : Int) := by
    rw [show (n : Int).tmod 40 = ((n % 40 : Nat) : Int) from rfl]
    exact wrap_in (by omega) (by omega)
   have hst := fsI_take hg
   rw [← hv] at hst
   have hset := setB_m (d := badL (fsI (l.take 0))) (fun x hx => fsI_bound (badL_mem.1 hx)) (n := IntKind.i64.wrap ((n : Int).tmod 40)) (by rw [hv]; omega)
   clear hb
   refine kW ?_
   refine kP [.c [.int .u8 n]] ?_ ?_
   ·((repeat' apply And.intro) <;> first | exact kD | (intro hgd; refine ⟨?_, kG⟩; (repeat' apply And.intro) <;> first | exact kD | skip) | skip)
    all_goals exact rowsW_at hg
   refine kW ?_
   refine AK.regs ?_
   refine SK.run 5 [] ?_ ?_
   ·((repeat' apply And.intro) <;> first | exact kD | (intro hgd; refine ⟨?_, kG⟩; (repeat' apply And.intro) <;> first | exact kD | skip) | skip)
    all_goals omega
   have hM := failA [] 0 (-1) false (IntKind.i64.wrap ((n : Int).tmod 40))
   refine SK.callX (cluFI [(IntKind.i64.wrap ((n : Int).tmod 40))]) (fun j => cluFB 1000100 1900101 1000101 [] 0 (-1) false [(IntKind.i64.wrap ((n : Int).tmod 40))] j) (fun _ => .tup []) [1000100, 1900101] hM ?_ ?_
   ·intro j hj
    have hall := all_rowsJ (g := AV.inS [1000100, 1900101, 1000101]) (fun _ => rfl) rfl [(IntKind.i64.wrap ((n : Int).tmod 40))] j.2
    show (((true && (true && (true && (((rowsJ [(IntKind.i64.wrap ((n : Int).tmod 40))]).flatten ++ List.replicate j.2 AV.top).all (AV.inS [1000100, 1900101, 1000101]) && true)))) && true) && true) = true
    rw [hall]
    rfl
   intro ⟨cap', m'⟩ hj
   refine SK.nil ?_
   refine kW ?_
   refine kQ [.s [1900102] [(1900102, [mcA (rowsB (insB (badL (fsI (l.take 0))) (IntKind.i64.wrap ((n : Int).tmod 40))))])] (.bool true)] ?_
   refine kW ?_
   refine AK.lp ⟨(0 + 1, some (false, cap', m')), ⟨by omega, ?_⟩, ?_, by dsimp only; omega⟩
   ·rw [hst]
    exact hj
   ·exact Weak.introN ⟨kI, kI, kI, kI, kI, kU, trivial⟩ ⟨⟨_, rfl, leL_of_eq (by rw [hst, badL_snoc] <;> rfl)⟩, ⟨_, rfl, leL_of_eq (by rw [hst] <;> rfl)⟩, kJ, ⟨_, rfl, leL_of_eq (by rw [hst] <;> rfl)⟩, trivial⟩ rfl rfl ⟨rfl, rfl, rfl, all_rowsJ (fun _ => rfl) rfl _ _, trivial⟩
  ·have hlt : 0 = l.length := by
    have : l.length ≤ 0 := by simpa [rowsW_len] using hb
    omega
   have hl0 : l = [] := List.eq_nil_of_length_eq_zero hlt.symm
   subst hl0
   clear hb
   refine AK.exit rfl ?_
   refine kS ?_
   refine AK.regs ?_
   refine SK.run 2 [] ?_ ?_
   ·((repeat' apply And.intro) <;> first | exact kD | (intro hgd; refine ⟨?_, kG⟩; (repeat' apply And.intro) <;> first | exact kD | skip) | skip)
   have hM := failA [] 0 (-1) false (-1)
   refine SK.callX (cluFI [(-1)]) (fun j => cluFB 1000100 1900101 1000101 [] 0 (-1) false [(-1)] j) (fun _ => .tup []) [1000100, 1900101] hM ?_ ?_
   ·intro j hj
    have hall := all_rowsJ (g := AV.inS [1000100, 1900101, 1000101]) (fun _ => rfl) rfl [(-1)] j.2
    show (((true && (true && (true && (((rowsJ [(-1)]).flatten ++ List.replicate j.2 AV.top).all (AV.inS [1000100, 1900101, 1000101]) && true)))) && true) && true) = true
    rw [hall]
    rfl
   intro ⟨cap', m'⟩ hj
   refine SK.nil ?_
   have hC := RowCs.mk_ (rowsJ_ok [-1]) (cap := cap') (m := m') (by rw [rowsJ_len]; exact hj.1) hj.2
   refine AK.weak (Weak.trans (Weak.fz (id := 1000101) rfl rfl) (Weak.introN (L := [(1, .int .u8 ns), (5, .np 1000100 0), (6, .np 1900102 0)]) (BL := [badB (badL (fsI [])), (1000100, [.np 1900101 0, .int .i64 0, .lst .any 1 (rowsJ (fsI [] ++ [-1])), .int .i64 (-1), .bool false, npC], false), (1900101, [mcA []], false)]) ⟨kI, kI, kI, trivial⟩ ⟨kJ, ⟨_, rfl, .refl _, .refl _, ?_, .refl _, .refl _, .refl _, trivial⟩, kJ, trivial⟩ rfl rfl ⟨rfl, rfl, rfl, trivial⟩)) ?_
   ·have hn := rowsJ_len [-1]
    show AVle1 _ (.sli 1000101 1 [-1].length cap') _
    rw [← hn]
    exact hC.le rfl
   exact tail E hE
 ·cases b with
  | false =>
   obtain ⟨hk, hI⟩ := hI
   show AK _ _ _ _ (frOf _) _
   refine kW ?_
   refine kC (fun hb => ?_) fun hb => ?_
   ·have hlt : k < l.length := by simpa [rowsW_len] using hb
    obtain ⟨n, hg⟩ : ∃ x, l[k]? = some x := ⟨_, List.getElem?_eq_getElem hlt⟩
    have hv : IntKind.i64.wrap ((n : Int).tmod 40) = ((n % 40 : Nat) : Int) := by
     rw [show (n : Int).tmod 40 = ((n % 40 : Nat) : Int) from rfl]
     exact wrap_in (by omega) (by omega)
    have hst := fsI_take hg
    rw [← hv] at hst
    have hset := setB_m (d := badL (fsI (l.take k))) (fun x hx => fsI_bound (badL_mem.1 hx)) (n := IntKind.i64.wrap ((n : Int).tmod 40)) (by rw [hv]; omega)
    clear hb
    refine kW ?_
    refine kP [.c [.int .u8 n]] ?_ ?_
    ·((repeat' apply And.intro) <;> first | exact kD | (intro hgd; refine ⟨?_, kG⟩; (repeat' apply And.intro) <;> first | exact kD | skip) | skip)
     all_goals exact rowsW_at hg
    refine kW ?_
    refine AK.regs ?_
    refine SK.run 5 [] ?_ ?_
    ·((repeat' apply And.intro) <;> first | exact kD | (intro hgd; refine ⟨?_, kG⟩; (repeat' apply And.intro) <;> first | exact kD | skip) | skip)
     all_goals omega
    have hM := failP [] 0 (-1) false (fsI (l.take k)) (by rw [fsI_len]; rw [List.length_take]; omega) (cap, m) hI (IntKind.i64.wrap ((n : Int).tmod 40))
    have hM : MSX Tryd.prog 7 [(1000100, [.np 1900101 0, .int .i64 0, .sli 1000101 1 (fsI (l.take k)).length cap, .int .i64 (-1), .bool false, npC]), (1900101, [mcA []]), (1000101, ((rowsJ (fsI (l.take k))).flatten ++ List.replicate m AV.top).map AV.told)] [.np 1000100 0, .lst .any 1 [[.int .i64 (IntKind.i64.wrap ((n : Int).tmod 40))]]] (cluFI (fsI (l.take k) ++ [(IntKind.i64.wrap ((n : Int).tmod 40))])) (fun j => cluFB 1000100 1900101 1000102 [] 0 (-1) false (fsI (l.take k) ++ [(IntKind.i64.wrap ((n : Int).tmod 40))]) j) (fun _ => .tup []) := by
     rw [told_rowsJ]
     exact hM
    refine SK.callX (cluFI (fsI (l.take k) ++ [(IntKind.i64.wrap ((n : Int).tmod 40))])) (fun j => cluFB 1000100 1900101 1000102 [] 0 (-1) false (fsI (l.take k) ++ [(IntKind.i64.wrap ((n : Int).tmod 40))]) j) (fun _ => .tup []) [1000100, 1900101, 1000101] hM ?_ ?_
    ·intro j hj
     have hall := all_rowsJ (g := AV.inS [1000100, 1900101, 1000102]) (fun _ => rfl) rfl (fsI (l.take k) ++ [(IntKind.i64.wrap ((n : Int).tmod 40))]) j.2
     show (((true && (true && (true && (((rowsJ (fsI (l.take k) ++ [(IntKind.i64.wrap ((n : Int).tmod 40))])).flatten ++ List.replicate j.2 AV.top).all (AV.inS [1000100, 1900101, 1000102]) && true)))) && true) && true) = true
     rw [hall]
     rfl
    intro ⟨cap', m'⟩ hj
    refine SK.nil ?_
    refine kW ?_
    refine kQ [.s [1900102] [(1900102, [mcA (rowsB (insB (badL (fsI (l.take k))) (IntKind.i64.wrap ((n : Int).tmod 40))))])] (.bool true)] ?_
    refine kW ?_
    refine AK.lp ⟨(k + 1, some (true, cap', m')), ⟨by omega, ?_⟩, ?_, by dsimp only; omega⟩
    ·rw [hst]
     exact hj
    ·exact Weak.introN ⟨kI, kI, kI, kI, kI, kU, trivial⟩ ⟨⟨_, rfl, leL_of_eq (by rw [hst, badL_snoc] <;> rfl)⟩, ⟨_, rfl, leL_of_eq (by rw [hst] <;> rfl)⟩, kJ, ⟨_, rfl, leL_of_eq (by rw [hst] <;> rfl)⟩, trivial⟩ rfl rfl ⟨rfl, rfl, rfl, all_rowsJ (fun _ => rfl) rfl _ _, trivial⟩
   ·have hlt : k = l.length := by
     have : l.length ≤ k := by simpa [rowsW_len] using hb
     omega
    have htk : fsI l = fsI (l.take k) := by rw [List.take_of_length_le (by omega)]
    rw [htk] at tail
    clear hb
    refine AK.exit rfl ?_
    refine kS ?_
    refine AK.regs ?_
    refine SK.run 2 [] ?_ ?_
    ·((repeat' apply And.intro) <;> first | exact kD | (intro hgd; refine ⟨?_, kG⟩; (repeat' apply And.intro) <;> first | exact kD | skip) | skip)
    have hM := failP [] 0 (-1) false (fsI (l.take k)) (by rw [fsI_len, List.length_take]; omega) (cap, m) hI (-1)
    have hM : MSX Tryd.prog 7 [(1000100, [.np 1900101 0, .int .i64 0, .sli 1000101 1 (fsI (l.take k)).length cap, .int .i64 (-1), .bool false, npC]), (1900101, [mcA []]), (1000101, ((rowsJ (fsI (l.take k))).flatten ++ List.replicate m AV.top).map AV.told)] [.np 1000100 0, .lst .any 1 [[.int .i64 (-1)]]] (cluFI (fsI (l.take k) ++ [(-1)])) (fun j => cluFB 1000100 1900101 1000102 [] 0 (-1) false (fsI (l.take k) ++ [(-1)]) j) (fun _ => .tup []) := by
     rw [told_rowsJ]
     exact hM
    refine SK.callX (cluFI (fsI (l.take k) ++ [(-1)])) (fun j => cluFB 1000100 1900101 1000102 [] 0 (-1) false (fsI (l.take k) ++ [(-1)]) j) (fun _ => .tup []) [1000100, 1900101, 1000101] hM ?_ ?_
    ·intro j hj
     have hall := all_rowsJ (g := AV.inS [1000100, 1900101, 1000102]) (fun _ => rfl) rfl (fsI (l.take k) ++ [(-1)]) j.2
     show (((true && (true && (true && (((rowsJ (fsI (l.take k) ++ [(-1)])).flatten ++ List.replicate j.2 AV.top).all (AV.inS [1000100, 1900101, 1000102]) && true)))) && true) && true) = true
     rw [hall]
     rfl
    intro ⟨cap', m'⟩ hj
    refine SK.nil ?_
    have hC := RowCs.mk_ (rowsJ_ok (fsI (l.take k) ++ [-1])) (cap := cap') (m := m') (by rw [rowsJ_len]; exact hj.1) hj.2
    refine AK.weak (Weak.trans (Weak.fz (id := 1000102) rfl rfl) (Weak.introN (L := [(1, .int .u8 ns), (5, .np 1000100 0), (6, .np 1900102 0)]) (BL := [badB (badL (fsI (l.take k))), (1000100, [.np 1900101 0, .int .i64 0, .lst .any 1 (rowsJ (fsI (l.take k) ++ [-1])), .int .i64 (-1), .bool false, npC], false), (1900101, [mcA []], false)]) ⟨kI, kI, kI, trivial⟩ ⟨kJ, ⟨_, rfl, .refl _, .refl _, ?_, .refl _, .refl _, .refl _, trivial⟩, kJ, trivial⟩ rfl rfl ⟨rfl, rfl, rfl, trivial⟩)) ?_
    ·have hn := rowsJ_len (fsI (l.take k) ++ [-1])
     show AVle1 _ (.sli 1000102 1 (fsI (l.take k) ++ [-1]).length cap') _
     rw [← hn]
     exact hC.le rfl
    exact tail E hE
  | true =>
   obtain ⟨hk, hI⟩ := hI
   show AK _ _ _ _ (frOf _) _
   refine kW ?_
   refine kC (fun hb => ?_) fun hb => ?_
   ·have hlt : k < l.length := by simpa [rowsW_len] using hb
    obtain ⟨n, hg⟩ : ∃ x, l[k]? = some x := ⟨_, List.getElem?_eq_getElem hlt⟩
    have hv : IntKind.i64.wrap ((n : Int).tmod 40) = ((n % 40 : Nat) : Int) := by
     rw [show (n : Int).tmod 40 = ((n % 40 : Nat) : Int) from rfl]
     exact wrap_in (by omega) (by omega)
    have hst := fsI_take hg
    rw [← hv] at hst
    have hset := setB_m (d := badL (fsI (l.take k))) (fun x hx => fsI_bound (badL_mem.1 hx)) (n := IntKind.i64.wrap ((n : Int).tmod 40)) (by rw [hv]; omega)
    clear hb
    refine kW ?_
    refine kP [.c [.int .u8 n]] ?_ ?_
    ·((repeat' apply And.intro) <;> first | exact kD | (intro hgd; refine ⟨?_, kG⟩; (repeat' apply And.intro) <;> first | exact kD | skip) | skip)
     all_goals exact rowsW_at hg
    refine kW ?_
    refine AK.regs ?_
    refine SK.run 5 [] ?_ ?_
    ·((repeat' apply And.intro) <;> first | exact kD | (intro hgd; refine ⟨?_, kG⟩; (repeat' apply And.intro) <;> first | exact kD | skip) | skip)
     all_goals omega
    have hM := failQ [] 0 (-1) false (fsI (l.take k)) (by rw [fsI_len]; rw [List.length_take]; omega) (cap, m) hI (IntKind.i64.wrap ((n : Int).tmod 40))
    have hM : MSX Tryd.prog 7 [(1000100, [.np 1900101 0, .int .i64 0, .sli 1000102 1 (fsI (l.take k)).length cap, .int .i64 (-1), .bool false, npC]), (1900101, [mcA []]), (1000102, ((rowsJ (fsI (l.take k))).flatten ++ List.replicate m AV.top).map AV.told)] [.np 1000100 0, .lst .any 1 [[.int .i64 (IntKind.i64.wrap ((n : Int).tmod 40))]]] (cluFI (fsI (l.take k) ++ [(IntKind.i64.wrap ((n : Int).tmod 40))])) (fun j => cluFB 1000100 1900101 1000101 [] 0 (-1) false (fsI (l.take k) ++ [(IntKind.i64.wrap ((n : Int).tmod 40))]) j) (fun _ => .tup []) := by
     rw [told_rowsJ]
     exact hM
    refine SK.callX (cluFI (fsI (l.take k) ++ [(IntKind.i64.wrap ((n : Int).tmod 40))])) (fun j => cluFB 1000100 1900101 1000101 [] 0 (-1) false (fsI (l.take k) ++ [(IntKind.i64.wrap ((n : Int).tmod 40))]) j) (fun _ => .tup []) [1000100, 1900101, 1000102] hM ?_ ?_
    ·intro j hj
     have hall := all_rowsJ (g := AV.inS [1000100, 1900101, 1000101]) (fun _ => rfl) rfl (fsI (l.take k) ++ [(IntKind.i64.wrap ((n : Int).tmod 40))]) j.2
     show (((true && (true && (true && (((rowsJ (fsI (l.take k) ++ [(IntKind.i64.wrap ((n : Int).tmod 40))])).flatten ++ List.replicate j.2 AV.top).all (AV.inS [1000100, 1900101, 1000101]) && true)))) && true) && true) = true
     rw [hall]
     rfl
    intro ⟨cap', m'⟩ hj
    refine SK.nil ?_
    refine kW ?_
    refine kQ [.s [1900102] [(1900102, [mcA (rowsB (insB (badL (fsI (l.take k))) (IntKind.i64.wrap ((n : Int).tmod 40))))])] (.bool true)] ?_
    refine kW ?_
    refine AK.lp ⟨(k + 1, some (false, cap', m')), ⟨by omega, ?_⟩, ?_, by dsimp only; omega⟩
    ·rw [hst]
     exact hj
    ·exact Weak.introN ⟨kI, kI, kI, kI, kI, kU, trivial⟩ ⟨⟨_, rfl, leL_of_eq (by rw [hst, badL_snoc] <;> rfl)⟩, ⟨_, rfl, leL_of_eq (by rw [hst] <;> rfl)⟩, kJ, ⟨_, rfl, leL_of_eq (by rw [hst] <;> rfl)⟩, trivial⟩ rfl rfl ⟨rfl, rfl, rfl, all_rowsJ (fun _ => rfl) rfl _ _, trivial⟩
   ·have hlt : k = l.length := by
     have : l.length ≤ k := by simpa [rowsW_len] using hb
     omega
    have htk : fsI l = fsI (l.take k) := by rw [List.take_of_length_le (by omega)]
    rw [htk] at tail
    clear hb
    refine AK.exit rfl ?_
    refine kS ?_
    refine AK.regs ?_
    refine SK.run 2 [] ?_ ?_
    ·((repeat' apply And.intro) <;> first | exact kD | (intro hgd; refine ⟨?_, kG⟩; (repeat' apply And.intro) <;> first | exact kD | skip) | skip)
    have hM := failQ [] 0 (-1) false (fsI (l.take k)) (by rw [fsI_len, List.length_take]; omega) (cap, m) hI (-1)
    have hM : MSX Tryd.prog 7 [(1000100, [.np 1900101 0, .int .i64 0, .sli 1000102 1 (fsI (l.take k)).length cap, .int .i64 (-1), .bool false, npC]), (1900101, [mcA []]), (1000102, ((rowsJ (fsI (l.take k))).flatten ++ List.replicate m AV.top).map AV.told)] [.np 1000100 0, .lst .any 1 [[.int .i64 (-1)]]] (cluFI (fsI (l.take k) ++ [(-1)])) (fun j => cluFB 1000100 1900101 1000101 [] 0 (-1) false (fsI (l.take k) ++ [(-1)]) j) (fun _ => .tup []) := by
     rw [told_rowsJ]
     exact hM
    refine SK.callX (cluFI (fsI (l.take k) ++ [(-1)])) (fun j => cluFB 1000100 1900101 1000101 [] 0 (-1) false (fsI (l.take k) ++ [(-1)]) j) (fun _ => .tup []) [1000100, 1900101, 1000102] hM ?_ ?_
    ·intro j hj
     have hall := all_rowsJ (g := AV.inS [1000100, 1900101, 1000101]) (fun _ => rfl) rfl (fsI (l.take k) ++ [(-1)]) j.2
     show (((true && (true && (true && (((rowsJ (fsI (l.take k) ++ [(-1)])).flatten ++ List.replicate j.2 AV.top).all (AV.inS [1000100, 1900101, 1000101]) && true)))) && true) && true) = true
     rw [hall]
     rfl
    intro ⟨cap', m'⟩ hj
    refine SK.nil ?_
    have hC := RowCs.mk_ (rowsJ_ok (fsI (l.take k) ++ [-1])) (cap := cap') (m := m') (by rw [rowsJ_len]; exact hj.1) hj.2
    refine AK.weak (Weak.trans (Weak.fz (id := 1000101) rfl rfl) (Weak.introN (L := [(1, .int .u8 ns), (5, .np 1000100 0), (6, .np 1900102 0)]) (BL := [badB (badL (fsI (l.take k))), (1000100, [.np 1900101 0, .int .i64 0, .lst .any 1 (rowsJ (fsI (l.take k) ++ [-1])), .int .i64 (-1), .bool false, npC], false), (1900101, [mcA []], false)]) ⟨kI, kI, kI, trivial⟩ ⟨kJ, ⟨_, rfl, .refl _, .refl _, ?_, .refl _, .refl _, .refl _, trivial⟩, kJ, trivial⟩ rfl rfl ⟨rfl, rfl, rfl, trivial⟩)) ?_
    ·have hn := rowsJ_len (fsI (l.take k) ++ [-1])
     show AVle1 _ (.sli 1000101 1 (fsI (l.take k) ++ [-1]).length cap') _
     rw [← hn]
     exact hC.le rfl
    exact tail E hE
end Go.Proofs.YtdncaodccgfniaaDoor
