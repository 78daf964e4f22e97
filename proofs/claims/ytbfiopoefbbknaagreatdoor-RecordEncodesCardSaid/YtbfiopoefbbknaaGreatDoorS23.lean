/-
  The texts that the claim wants, one behind the other: part 23.
-/
import Derived.Test.YtbfiopoefbbknaaGreatDoorS22
set_option linter.unusedSimpArgs false
set_option linter.unusedVariables false
namespace Go.Proofs.YtbfiopoefbbknaaGreatDoor
open Go.RowKit
def lightR (r : Rc) : Bool := decide ((r.rel.size : Int) ≤ 200) && decide ((r.ch.size : Int) ≤ 500) && decide ((r.va.size : Int) ≤ 2000) && decide ((r.ma.size : Int) ≤ 4000)
theorem lightR_a (r : Rc) : AC Tryz.prog 17 [.agg (rcA r)] (.bool (lightR r)) := by
 refine kE Tryz.func17 a_law17_Light_ok a_law17_Light_cb fun E hE => ?_
 refine kW ?_
 refine kQ [] ?_
 refine kW ?_
 refine AK.ret ⟨_, rfl, ?_⟩
 rfl
theorem refStr_a (s : ByteArray) : AC Tryz.prog 65 [.str s] ((vA ((V.str s)))) := by
 refine kE Tryz.func65 a_ref17_str_ok a_ref17_str_cb fun E hE => ?_
 refine kW ?_
 refine AK.ret ⟨_, rfl, ?_⟩
 rfl
theorem refNum_a (n : Int) : AC Tryz.prog 66 [.int .i64 n] ((vA ((V.int n)))) := by
 refine kE Tryz.func66 a_ref17_num_ok a_ref17_num_cb fun E hE => ?_
 refine kW ?_
 refine AK.ret ⟨_, rfl, ?_⟩
 rfl
theorem refEncode_a (r : Rc) : AC Tryz.prog 32 [.agg (rcA r)] ((vA ((recV r)))) := by
 refine kE Tryz.func32 a_ref17_Encode_ok a_ref17_Encode_cb fun E hE => ?_
 refine kW ?_
 refine kP [.v ((vA ((V.str r.ch)))), .v ((vA ((V.int r.cmd)))), .v ((vA ((V.str r.ma)))), .v ((vA ((V.str r.rel)))), .v ((vA ((V.int r.rev)))), .v ((vA ((V.int r.st)))), .v ((vA ((V.str r.va))))] ?_ ?_
 ·((repeat' apply And.intro) <;> first | exact kD | (intro hgd; refine ⟨?_, kG⟩; (repeat' apply And.intro) <;> first | exact kD | skip) | skip)
  all_goals first | exact refStr_a _ | exact refNum_a _ | skip
 refine kW ?_
 refine AK.ret ⟨_, rfl, ?_⟩
 rfl
theorem refID_a (a : ByteArray) (n : Nat) (ha : a.size ≤ 140737488355328) (hn : n ≤ 1000000000) : AC Tryz.prog 34 [.str a, .int .i64 n] (.agg [.str hidB, .str defB, .str (idB a n)]) := by
 have h1 := digitsP_a n (by omega)
 have hd := dec_len 9 n (by omega)
 have hz : (ByteArray.mk (Lib.decDigits n).toArray).size = (Lib.decDigits n).length := by simp [ByteArray.size]
 have h2 : (a ++ ByteArray.mk #[46, 118]).size = a.size + 2 := by rw [ByteArray.size_append]; rfl
 refine kE Tryz.func34 a_ref17_ID_ok a_ref17_ID_cb fun E hE => ?_
 refine kW ?_
 refine kP [.v (.str ⟨(Lib.decDigits n).toArray⟩)] ?_ ?_
 ·((repeat' apply And.intro) <;> first | exact kD | (intro hgd; refine ⟨?_, kG⟩; (repeat' apply And.intro) <;> first | exact kD | skip) | skip)
  all_goals (first | (show ((a.size + 2 : Nat) : Int) ≤ _; omega) | omega)
 refine kW ?_
 refine AK.ret ⟨_, rfl, ?_⟩
 rfl
theorem heldR2 : Tryz.prog.stoodInHeld 50 = false := by kernel_rfl
theorem guardR2 : Tryz.prog.eqGuardType Tryz.prog.depth 50 = false := by kernel_rfl
theorem eqR2_any (a b : Rc) : EqRun Tryz.prog false 50 (rcV a) (rcV b) (eqCells (rcA a) (rcA b)) := by
 intro w x y
 constructor
 ·simp [go_sem, eqGuard, eqOp, guardR2]
 ·simp [go_sem, eqOp, heldR2, eqCells, tl_iff, rcV, rcA]
  (repeat' split) <;> simp_all
theorem rec_check {r : Rc} (h : rcOk r = true) : (recV r).checkC = 0 := by
 have hd : (recV r).depth ≤ 16 := by
  have : (recV r).depth = 2 := by simp [V.depth_eq, recV, recM, V.str, V.int, V.l, V.m, depthL, depthM]
  omega
 rw [good_check (rec_good h) hd, rec_size, if_neg (by decide)]
theorem rec_sb {r : Rc} (h : rcOk r = true) : (recV r).sb := good_sb _ _ (Nat.le_of_eq (rec_size r)) (by decide) (rec_good h)
theorem objsF_bad : ∀ (ds : List ByteArray) (out : List Ob), (objsF ds out).2 ≠ 0 → (objsF ds out).1 = []
 | [], out, h => absurd rfl h
 | d :: ds, out, h => by
  rw [objsF] at h ⊢
  split
  ·rfl
  rename_i h1
  rw [if_neg h1] at h
  split
  ·rename_i h2
   rw [if_pos h2] at h
   exact objsF_bad ds out h
  rename_i h2
  rw [if_neg h2] at h
  split
  ·rfl
  rename_i h3
  rw [if_neg h3] at h
  exact objsF_bad ds _ h
def recObjs (s : ByteArray) : List Ob × Int := if (objsL s).2 ≠ 0 then ([], 35) else ((objsL s).1.filter fun o => decide (hookOf o = ⟨#[]⟩), 0)
theorem recObjs_a (r : Rc) (hs : r.ma.size ≤ 900000) : AC Tryz.prog 23 [.agg (rcA r)] (.tup [.lst .any 9 (rowsO (recObjs r.ma).1), .int .i64 (recObjs r.ma).2]) := by
 have hO := objects_a r.ma (by omega)
 have hl := objsL_len r.ma
 have hall := objsL_all r.ma
 unfold recObjs
 generalize objsL r.ma = R at *
 obtain ⟨l, e⟩ := R
 dsimp only at hl hall hO ⊢
 have hS := osplit_a ⟨#[]⟩ l (by omega) (fun o ho => ⟨(hall o ho).1, by have := (hall o ho).2.1; omega⟩)
 refine kE Tryz.func23 a_record_Record_Objects_ok a_record_Record_Objects_cb fun E hE => ?_
 refine kW ?_
 refine kQ [.v (.tup [.lst .any 9 (rowsO l), .int .i64 e])] ?_
 refine kW ?_
 refine kC (fun hb => ?_) fun hb => ?_
 ·have h : e ≠ 0 := by simpa using hb
  rw [if_pos h]
  refine kW ?_
  refine AK.ret ⟨_, rfl, ?_⟩
  rfl
 have h : ¬ e ≠ 0 := by simpa using hb
 rw [if_neg h]
 refine kW ?_
 refine kQ [.v (.tup [.lst .any 9 (rowsO (splitO ⟨#[]⟩ l).1), .lst .any 9 (rowsO (splitO ⟨#[]⟩ l).2)])] ?_
 refine kW ?_
 refine AK.ret ⟨_, rfl, ?_⟩
 rfl
theorem recordEncodes_a (r : Rc) (hz : r.sz) (hw : r.w) : AC Tryz.prog 5 [.agg (rcA r)] (.bool true) := by
 have haw := awake_a
 have hL := lightR_a r
 refine kE Tryz.func5 a_law17_RecordEncodes_ok a_law17_RecordEncodes_cb fun E hE => ?_
 refine kW ?_
 refine kQ [.v (.bool (lightR r))] ?_
 refine kC (fun hb => ?_) fun hb => ?_
 ·refine kW ?_
  refine kQ [.v (.bool true)] ?_
  refine kW ?_
  refine AK.ret ⟨_, rfl, ?_⟩
  rfl
 have hlt : lightR r = true := by simpa using hb
 simp only [lightR, Bool.and_eq_true, decide_eq_true_eq] at hlt
 obtain ⟨⟨⟨z1, z2⟩, z3⟩, z4⟩ := hlt
 have h1 := recRight_a r hz
 have h2 := refRRight_a r hz
 have h3 := recName_a r.rel (by omega)
 have h4 := refName_a r.rel (by omega)
 refine kW ?_
 refine kQ [.v (.bool (rcOk r)), .v (.bool (rcOk r)), .v (.bool (nameB r.rel)), .v (.bool (nameB r.rel))] ?_
 refine kC (fun hb => ?_) fun hb => ?_
 ·simp at hb
 have hO := recObjs_a r (by omega)
 have hA := lobjects_a r.ma (by omega)
 have hl := objsL_len r.ma
 have hall := objsL_all r.ma
 have hbad := objsF_bad ((docsL r.ma.data.toList).map toB) []
 rw [show objsF ((docsL r.ma.data.toList).map toB) [] = objsL r.ma from rfl] at hbad
 have hO2 : AC Tryz.prog 23 [.agg (rcA r)] (.tup [.lst .any 9 (rowsO ((objsL r.ma).1.filter fun o => decide (hookOf o = ⟨#[]⟩))), .int .i64 (if (objsL r.ma).2 ≠ 0 then 35 else 0)]) := by
  unfold recObjs at hO
  by_cases h : (objsL r.ma).2 ≠ 0
  ·rw [if_pos h] at hO ⊢
   rw [hbad h]
   exact hO
  ·rw [if_neg h] at hO ⊢
   exact hO
 clear hO
 generalize objsL r.ma = R at *
 obtain ⟨l, e⟩ := R
 dsimp only at hl hall hO2 hA hbad
 have hq : (!(decide ((if e ≠ 0 then (35 : Int) else 0) = 0) == decide (e = 0)) || (!decide ((if e ≠ 0 then (35 : Int) else 0) = 0) && !decide ((if e ≠ 0 then (35 : Int) else 0) = 35))) = false := by
  by_cases h : e = 0
  ·simp [h]
  ·simp [h]
 generalize (if e ≠ 0 then (35 : Int) else 0) = e1 at *
 refine kW ?_
 refine kQ [.v (.tup [.lst .any 9 (rowsO (l.filter fun o => decide (hookOf o = ⟨#[]⟩))), .int .i64 e1])] ?_
 refine kW ?_
 refine kQ [.v (.tup [.lst .any 9 (rowsO l), .int .i64 e])] ?_
 refine kW ?_
 refine kQ [] ?_
 refine kC (fun hb => ?_) fun hb => ?_
 ·have h : (!(decide (e1 = 0) == decide (e = 0)) || (!decide (e1 = 0) && !decide (e1 = 35))) = true := hb
  rw [hq] at h
  cases h
 clear hq hb
 refine kW ?_
 refine AK.loopI (fun i : Nat × (Nat → Nat) => (frOf [(1, .ptr 1 0), (3, .ptr 3 0), (4, .lst .any 9 (rowsO (l.filter fun o => decide (hookOf o = ⟨#[]⟩)))), (8, .lst (.own 72 (i.2 72)) 9 (rowsO ((l.take i.1).filter fun o => decide (hookOf o = ⟨#[]⟩)))), (60, .lst .any 9 (rowsO l)), (61, .int .i64 (rowsO l).length), (62, .int .i64 i.1)], ⟨boxOf [(1, rcA r, false), (3, rcA r, false)], i.2⟩))
  (fun i => i.1 ≤ l.length) (fun i => l.length - i.1) (0, fun _ => 0) (Nat.zero_le _) (Weak.intro ⟨kI, kI, kI, ⟨_, rfl, .one (.own _ _ _ _)⟩, kI, kI, kI, trivial⟩ ⟨kJ, kJ, trivial⟩ rfl rfl) fun ⟨k, rr⟩ hk => ?_
 dsimp only at hk
 dsimp only
 refine kW ?_
 refine kC (fun hb => ?_) fun hb => ?_
 ·have hlt : k < l.length := by simpa [rowsO_len] using hb
  obtain ⟨o, hg⟩ : ∃ x, l[k]? = some x := ⟨_, List.getElem?_eq_getElem hlt⟩
  obtain ⟨g1, g2, _⟩ := hall o (List.mem_of_getElem? hg)
  have hH := rhook_a o g1 (by omega)
  have hs : (l.take (k + 1)).filter (fun o => decide (hookOf o = ⟨#[]⟩)) = (l.take k).filter (fun o => decide (hookOf o = ⟨#[]⟩)) ++ (if decide (hookOf o = ⟨#[]⟩) = true then [o] else []) := by
   rw [List.take_add_one, hg]
   simp only [Option.toList_some, List.filter_append, List.filter_cons, List.filter_nil]
  have hl1 : ((l.take k).filter fun o => decide (hookOf o = ⟨#[]⟩)).length ≤ 1000000 := Nat.le_trans (List.length_filter_le _ _) (by rw [List.length_take]; omega)
  generalize (l.take k).filter (fun o => decide (hookOf o = ⟨#[]⟩)) = a at *
  refine kW ?_
  refine kP [.c (obC o)] ?_ ?_
  ·((repeat' apply And.intro) <;> first | exact kD | (intro hgd; refine ⟨?_, kG⟩; (repeat' apply And.intro) <;> first | exact kD | skip) | skip)
   ·exact rowsO_at hg
  refine kW ?_
  refine kQ [.v (.str (hookOf o))] ?_
  refine kW ?_
  refine kC (fun hb => ?_) fun hb => ?_
  ·rw [hb] at hs
   refine kW ?_
   refine kP [] ?_ ?_
   ·((repeat' apply And.intro) <;> first | exact kD | (intro hgd; refine ⟨?_, kG⟩; (repeat' apply And.intro) <;> first | exact kD | skip) | skip)
    all_goals simp only [rowsO_len, List.length_cons, List.length_nil]
    all_goals omega
   refine kW ?_
   refine AK.lp ⟨(k + 1, _), by dsimp only; omega, Weak.intro ⟨kI, kI, kI, ⟨_, rfl, .of_eq ?_⟩, kI, kI, kU, trivial⟩ ⟨kJ, kJ, trivial⟩ rfl rfl, by dsimp only; omega⟩
   dsimp only
   rw [hs]
   simp [rowsO_snoc, appTag, appRow, upd_same]
   exact ⟨rfl, rfl, rfl, rfl, rfl, rfl, rfl, rfl, rfl⟩
  ·rw [hb] at hs
   refine kW ?_
   refine AK.lp ⟨(k + 1, rr), by dsimp only; omega, Weak.intro ⟨kI, kI, kI, ⟨_, rfl, .of_eq ?_⟩, kI, kI, kU, trivial⟩ ⟨kJ, kJ, trivial⟩ rfl rfl, by dsimp only; omega⟩
   dsimp only
   rw [hs]
   simp
 have hlt : k = l.length := by have : l.length ≤ k := by simpa [rowsO_len] using hb
                               omega
 subst hlt
 rw [List.take_length]
 refine AK.exit rfl ?_
 have hS := same12_refl (l.filter fun o => decide (hookOf o = ⟨#[]⟩)) (Nat.le_trans (List.length_filter_le _ _) (by omega)) (fun o ho => by have := (hall o (List.mem_filter.1 ho).1).2.1; omega)
 refine kW ?_
 refine kQ [.v (.bool true)] ?_
 refine kC (fun hb => ?_) fun hb => ?_
 ·cases hb
 refine kW ?_
 refine kQ [.v (.bool (rcOk r))] ?_
 refine kC (fun hb => ?_) fun hb => ?_
 ·refine kW ?_
  refine kQ [.v (.bool true)] ?_
  refine kW ?_
  refine AK.ret ⟨_, rfl, ?_⟩
  rfl
 have hR : rcOk r = true := by simpa using hb
 have hR2 := hR
 simp only [rcOk, Bool.and_eq_true, decide_eq_true_eq] at hR2
 obtain ⟨n1, ⟨⟨⟨⟨⟨m1, m2⟩, _⟩, _⟩, _⟩, _⟩, _⟩ := hR2
 obtain ⟨n, hn⟩ : ∃ n : Nat, r.rev = n := ⟨r.rev.toNat, by omega⟩
 have e1 := encode_a r
 have e2 := refEncode_a r
 have e3 := id_a r.rel n (by omega) (by omega)
 have e4 := refID_a r.rel n (by omega) (by omega)
 have e5 := decode_a r r.rel n hR hz hw n1 (by omega) (by omega)
 rw [if_pos ⟨rfl, hn⟩] at e5
 have e6 := owner_a r.rel n n1 (by omega) (by omega)
 have e7 := refSame_a (recV r).size (recV r) (recV r) (Nat.le_refl _) (by rw [rec_size]; omega)
 rw [show (recV r).sameB (recV r) = true from V.sameB_true.2 rfl] at e7
 have e8 := treeCheck_a (recV r) (rec_sb hR) (by rw [rec_size]; omega)
 rw [rec_check hR] at e8
 have e9 := eqR2_any r r
 unfold rcV rcA at e9
 have ea := eqID_any false hidB defB (idB r.rel n) hidB defB (idB r.rel n)
 rw [← hn] at e3 e4 e6
 generalize hv : recV r = v at *
 refine kW ?_
 refine kQ [.v ((vA (v)))] ?_
 refine kW ?_
 refine kQ [.v (.agg [.str hidB, .str defB, .str (idB r.rel n)]), .v (.tup [.agg (rcA r), .int .i64 0])] ?_
 refine kW ?_
 refine kQ [.v (.agg [.str hidB, .str defB, .str (idB r.rel n)]), .v (.tup [.str r.rel, .int .i64 r.rev, .bool true])] ?_
 refine kW ?_
 refine kP [.v (.bool true), .v ((vA (v))), .v (.bool true), .v (.int .i64 0), .v (.agg [.str hidB, .str defB, .str (idB r.rel n)]), .v (.agg [.str hidB, .str defB, .str (idB r.rel n)])] ?_ ?_
 ·clear hA hall hl hbad hz hw hO2
  (repeat' apply And.intro)
  all_goals first | exact haw | (intro hgg; refine ⟨?_, ?_⟩; (first | exact True.intro | with_reducible exact e9 | with_reducible exact ea | exact e2 | exact e7 | exact e8 | exact e3 | exact e4); (first | exact ⟨hgg, True.intro⟩ | exact ⟨hgg, hgg, True.intro⟩)) | exact (fun h => h) | exact True.intro
 refine kW ?_
 refine AK.ret ⟨_, rfl, ?_⟩
 refine congrArg AV.bool ?_
 simp [eqCells]
end Go.Proofs.YtbfiopoefbbknaaGreatDoor
