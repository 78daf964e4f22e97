/-
  The texts that the claim wants, one behind the other: part 48.
-/
import Derived.Test.YtgidajjjpeboeaaGreatDoorS47
set_option linter.unusedSimpArgs false
set_option linter.unusedVariables false
namespace Go.Proofs.YtgidajjjpeboeaaGreatDoor
open Go.RowKit
theorem wtL_drop {l : List V} {k deep n : Nat} {x : V} (h : l[k]? = some x) : wtL (l.drop k) deep n = if 6000 < n + x.wt deep then (n + x.wt deep, true) else wtL (l.drop (k + 1)) deep (n + x.wt deep) := by
 rw [drop_at h, wtL]
theorem wtM_drop {l : List (ByteArray × V)} {k deep n : Nat} {y : ByteArray} {x : V} (h : l[k]? = some (y, x)) : wtM (l.drop k) deep n = if 6000 < n + (x.wt deep + y.size) then (n + (x.wt deep + y.size), true) else wtM (l.drop (k + 1)) deep (n + (x.wt deep + y.size)) := by
 rw [drop_at h, wtM]
theorem wt_deep {v : V} {deep : Nat} (h : 40 < deep) : v.wt deep = 1048576 := by rw [V.wt_eq, if_pos h]
theorem wt_list {v : V} {deep : Nat} (h : ¬ 40 < deep) (h2 : (wtL v.l (deep + 1) (1 + v.s.size)).2 = true) : v.wt deep = (wtL v.l (deep + 1) (1 + v.s.size)).1 := by rw [V.wt_eq, if_neg h, if_pos h2]
theorem wt_map {v : V} {deep n : Nat} (h : ¬ 40 < deep) (h2 : wtL v.l (deep + 1) (1 + v.s.size) = (n, false)) : v.wt deep = (wtM v.m (deep + 1) n).1 := by rw [V.wt_eq, if_neg h, h2]; rfl
theorem weight_a (N : Nat) : ∀ (v : V) (deep : Nat), v.size ≤ N → v.sb → deep ≤ 41 → AC Tryz.prog 26 [(vA (v)), .int .i64 deep] (.int .i64 (v.wt deep : Nat)) := by
 induction N with
 | zero => intro v _ h; have := v.size_pos; omega
 | succ N ih =>
  intro v deep hn hsb hd
  have hve := v.size_eq
  have hss := sb_s hsb
  have hll := len_le_sizeL v.l
  have hlm := len_le_sizeM v.m
  obtain ⟨hl1, hl2⟩ := sb_len hsb
  refine kE Tryz.func26 a_law01_weight_ok a_law01_weight_cb fun E hE => ?_
  refine kW ?_
  refine kC (fun hb => ?_) fun hb => ?_
  ·have h1 : 40 < deep := by have : (40 : Int) < deep := by simpa using hb
                             omega
   refine kW ?_
   refine AK.ret ⟨_, rfl, ?_⟩
   exact congrArg (AV.int _) (by rw [wt_deep h1]; rfl)
  have h1 : ¬ 40 < deep := by have : (deep : Int) ≤ 40 := by simpa using hb
                              omega
  refine kW ?_
  refine AK.loopI (fun i : Nat × Nat => (frOf [(1, .int .i64 deep), (2, .ptr 2 0), (5, .int .i64 (i.2 : Nat)), (17, .lst .any 6 (rowsV v.l)), (18, .int .i64 (rowsV v.l).length), (19, .int .i64 i.1)], ⟨boxOf [(2, (vC (v)), false)], fun _ => 0⟩))
   (fun i => i.1 ≤ v.l.length ∧ i.2 ≤ 140737488361328 ∧ wtL (v.l.drop i.1) (deep + 1) i.2 = wtL v.l (deep + 1) (1 + v.s.size)) (fun i => v.l.length - i.1) (0, 1 + v.s.size) ⟨by simp, by simp; omega, rfl⟩ (Weak.intro ⟨kI, kI, kU, kI, kI, kI, trivial⟩ ⟨kJ, trivial⟩ rfl rfl) fun ⟨k, n⟩ ⟨hk, hn6, hr⟩ => ?_
  dsimp only at hk hn6 hr
  refine kW ?_
  refine kC (fun hb => ?_) fun hb => ?_
  ·have hlt : k < v.l.length := by simpa [rowsV_len] using hb
   obtain ⟨x, hg⟩ : ∃ x, v.l[k]? = some x := ⟨_, List.getElem?_eq_getElem hlt⟩
   have hx := sizeL_take hg
   have hx2 := sizeL_take_le v.l (k + 1)
   have hwt := V.wt_sb (sb_l hsb hg) (deep := deep + 1) (by omega)
   rw [wtL_drop hg] at hr
   refine kW ?_
   refine kP [.c (vC (x))] ?_ ?_
   ·((repeat' apply And.intro) <;> first | exact kD | (intro hgd; refine ⟨?_, kG⟩; (repeat' apply And.intro) <;> first | exact kD | skip) | skip)
    ·exact rowsV_at hg
   refine kW ?_
   refine kP [.v (.int .i64 (x.wt (deep + 1) : Nat))] ?_ ?_
   ·((repeat' apply And.intro) <;> first | exact kD | (intro hgd; refine ⟨?_, kG⟩; (repeat' apply And.intro) <;> first | exact kD | skip) | skip)
    ·rw [wrap_in (by omega) (by omega)]
     exact ih x (deep + 1) (by omega) (sb_l hsb hg) (by omega)
   refine kW ?_
   have hw : IntKind.i64.wrap (((k, n).2 : Nat) + (x.wt (deep + 1) : Nat)) = ((n + x.wt (deep + 1) : Nat) : Int) := by
    rw [wrap_in (by omega) (by omega)]; omega
   refine kC (fun hb => ?_) fun hb => ?_
   ·have he : 6000 < n + x.wt (deep + 1) := by
     have : (6000 : Int) < (n + x.wt (deep + 1) : Nat) := by rw [← hw]; simpa using hb
     omega
    rw [if_pos he] at hr
    refine kW ?_
    refine AK.ret ⟨_, rfl, ?_⟩
    exact congrArg (AV.int _) (by rw [wt_list h1 (by rw [← hr]), ← hr, hw])
   ·have he : ¬ 6000 < n + x.wt (deep + 1) := by
     have : ((n + x.wt (deep + 1) : Nat) : Int) ≤ 6000 := by rw [← hw]; simpa using hb
     omega
    rw [if_neg he] at hr
    refine kW ?_
    exact AK.lp ⟨(k + 1, n + x.wt (deep + 1)), ⟨by dsimp only; omega, by dsimp only; omega, hr⟩, Weak.intro ⟨kI, kI, ⟨_, rfl, .of_eq (congrArg _ hw)⟩, kI, kI, kU, trivial⟩ ⟨kJ, trivial⟩ rfl rfl, by dsimp only; omega⟩
  ·have hlt : k = v.l.length := by have : v.l.length ≤ k := by simpa [rowsV_len] using hb
                                   omega
   subst hlt
   rw [List.drop_length, wtL] at hr
   refine AK.exit rfl ?_
   refine kW ?_
   refine AK.loopI (fun i : Nat × Nat => (frOf [(1, .int .i64 deep), (2, .ptr 2 0), (5, .int .i64 (i.2 : Nat)), (34, .lst .any 7 (rowsM v.m)), (35, .int .i64 (rowsM v.m).length), (36, .int .i64 i.1)], ⟨boxOf [(2, (vC (v)), false)], fun _ => 0⟩))
    (fun i => i.1 ≤ v.m.length ∧ i.2 ≤ 140737488361328 ∧ (wtM (v.m.drop i.1) (deep + 1) i.2).1 = v.wt deep) (fun i => v.m.length - i.1) (0, n) ⟨by simp, hn6, (wt_map h1 hr.symm).symm⟩ (Weak.intro ⟨kI, kI, kI, kI, kI, kI, trivial⟩ ⟨kJ, trivial⟩ rfl rfl) fun ⟨k, n⟩ ⟨hk, hn6, hr⟩ => ?_
   dsimp only at hk hn6 hr
   refine kW ?_
   refine kC (fun hb => ?_) fun hb => ?_
   ·have hlt : k < v.m.length := by simpa [rowsM_len] using hb
    obtain ⟨⟨y, x⟩, hg⟩ : ∃ x, v.m[k]? = some x := ⟨_, List.getElem?_eq_getElem hlt⟩
    have hx := sizeM_take hg
    have hx2 := sizeM_take_le v.m (k + 1)
    have hwt := V.wt_sb (sb_m hsb hg).2 (deep := deep + 1) (by omega)
    have hy := (sb_m hsb hg).1
    rw [wtM_drop hg] at hr
    refine kW ?_
    refine kP [.c (.str y :: (vC (x)))] ?_ ?_
    ·((repeat' apply And.intro) <;> first | exact kD | (intro hgd; refine ⟨?_, kG⟩; (repeat' apply And.intro) <;> first | exact kD | skip) | skip)
     ·exact rowsM_at hg
    refine kW ?_
    refine kP [.v (.int .i64 (x.wt (deep + 1) : Nat))] ?_ ?_
    ·((repeat' apply And.intro) <;> first | exact kD | (intro hgd; refine ⟨?_, kG⟩; (repeat' apply And.intro) <;> first | exact kD | skip) | skip)
     ·rw [wrap_in (by omega) (by omega)]
      exact ih x (deep + 1) (by omega) (sb_m hsb hg).2 (by omega)
    refine kW ?_
    have hw : IntKind.i64.wrap (((k, n).2 : Nat) + IntKind.i64.wrap ((x.wt (deep + 1) : Nat) + y.size)) = ((n + (x.wt (deep + 1) + y.size) : Nat) : Int) := by
     rw [wrap_in (n := (x.wt (deep + 1) : Nat) + y.size) (by omega) (by omega), wrap_in (by dsimp only; omega) (by dsimp only; omega)]; dsimp only; omega
    refine kC (fun hb => ?_) fun hb => ?_
    ·have he : 6000 < n + (x.wt (deep + 1) + y.size) := by
      have : (6000 : Int) < (n + (x.wt (deep + 1) + y.size) : Nat) := by rw [← hw]; simpa using hb
      omega
     rw [if_pos he] at hr
     refine kW ?_
     refine AK.ret ⟨_, rfl, ?_⟩
     exact congrArg (AV.int _) (by rw [← hr, hw])
    ·have he : ¬ 6000 < n + (x.wt (deep + 1) + y.size) := by
      have : ((n + (x.wt (deep + 1) + y.size) : Nat) : Int) ≤ 6000 := by rw [← hw]; simpa using hb
      omega
     rw [if_neg he] at hr
     refine kW ?_
     exact AK.lp ⟨(k + 1, n + (x.wt (deep + 1) + y.size)), ⟨by dsimp only; omega, by dsimp only; omega, hr⟩, Weak.intro ⟨kI, kI, ⟨_, rfl, .of_eq (congrArg _ hw)⟩, kI, kI, kU, trivial⟩ ⟨kJ, trivial⟩ rfl rfl, by dsimp only; omega⟩
   ·have hlt : k = v.m.length := by have : v.m.length ≤ k := by simpa [rowsM_len] using hb
                                    omega
    subst hlt
    rw [List.drop_length, wtM] at hr
    refine AK.exit rfl ?_
    refine kW ?_
    refine AK.ret ⟨_, rfl, ?_⟩
    exact congrArg (AV.int _) (by rw [← hr])
theorem light_a (v : V) (hsb : v.sb) : AC Tryz.prog 6 [(vA (v))] (.bool v.light_) := by
 refine kE Tryz.func6 a_law01_Light_ok a_law01_Light_cb fun E hE => ?_
 refine kW ?_
 refine kP [.v (.int .i64 (v.wt 0 : Nat))] ?_ ?_
 ·((repeat' apply And.intro) <;> first | exact kD | (intro hgd; refine ⟨?_, kG⟩; (repeat' apply And.intro) <;> first | exact kD | skip) | skip)
  ·exact weight_a _ v 0 (Nat.le_refl _) hsb (by omega)
 refine kW ?_
 refine AK.ret ⟨_, rfl, ?_⟩
 refine congrArg AV.bool ?_
 rw [V.light_, Bool.eq_iff_iff]
 simp
 omega
end Go.Proofs.YtgidajjjpeboeaaGreatDoor
namespace Go.Proofs.YtgidajjjpeboeaaGreatDoor
open Go.RowKit Go.Maps Go.MapKept Go.ChangeMaps
structure OpR where
 kd : Int
 i : OId
 v : V
 n : Int
def rowsP (l : List OpR) : List (List AV) := l.map fun o => opC o.kd o.i o.v o.n
theorem rowsP_len (l : List OpR) : (rowsP l).length = l.length := List.length_map _
theorem rowsP_at {l : List OpR} {k : Nat} {o : OpR} (h : l[k]? = some o) : (rowsP l)[k]? = some (opC o.kd o.i o.v o.n) := by simp [rowsP, h]
def OpR.ok (o : OpR) : Prop := OkI o.i ∧ o.v.sb ∧ -9223372036854775808 ≤ o.n ∧ o.n ≤ 9223372036854775807
def cwJ (ops : List OpR) (kd : Int) (i : OId) (v : V) (n : Int) : Nat × Clu × FI → Fr × St
 | (k, cl, f) => (frOf [(3, .ptr 3 0), (5, .np 1000100 0), (28, .lst .any 11 (rowsP ops)), (29, .int .i64 (rowsP ops).length), (30, .int .i64 k)], ⟨boxOf ((3, opC kd i v n, false) :: YBA cl f), fun _ => 0⟩)
def twF : FI → FI
 | none => none
 | some (false, i) => some (true, i)
 | some (true, i) => some (false, i)
theorem twF_ok {cl : Clu} : ∀ {f : FI}, fiOk cl f → fiOk cl (twF f)
 | none, h => h
 | some (false, _), h => h
 | some (true, _), h => h
theorem newW_m : MS Tryz.prog 8 [] [npC] [(6, [.np 1900101 0, .int .i64 0, .lst .nil 1 [], .int .i64 (-1), .bool false, npC]), (1900101, [mcA []])] (.np 6 0) := by
 have hn : MOp Tryz.prog (.new 68) [] [] [(1900101, [mcA []])] (.np 1900101 0) := mop_new rfl
 refine MS.enter Tryz.func8 a_cluster_New_ok a_cluster_New_cb (by rfl) (by rfl) fun E hE => ?_
 show AK _ _ _ [.c b_cluster_New] _ _
 rw [b_cluster_New]
 refine kW ?_
 refine kQ [.s [] [(1900101, [mcA []])] (.np 1900101 0)] ?_
 refine kW ?_
 exact AK.ret ⟨⟨_, rfl, rfl⟩, ⟨_, rfl, rfl⟩, ⟨_, rfl, rfl⟩, trivial⟩
theorem newC_a : MS Tryz.prog 8 [] [npC] (cluN 1000100 1900101 Clu.new) (.np 1000100 0) := newW_m.ren rhoN rhoN_inj rhoN_mp
set_option maxHeartbeats 20000000 in
theorem clusterWrites_a (ops : List OpR) (hops : ∀ o ∈ ops, o.ok) (kd : Int) (i : OId) (hi : OkI i) (v : V) (hsb : v.sb) (n : Int) (hl : ops.length ≤ 1000000000000) : AC Tryz.prog 3 [.lst .any 11 (rowsP ops), .agg (opC kd i v n)] (.bool true) := by
 have hA := awakeCl_a
 have hL := light_a v hsb
 have hC := newC_a
 refine kE Tryz.func3 a_law16_ClusterWritesD_ok a_law16_ClusterWritesD_cb fun E hE => ?_
 have hmid := fun hv k hk cl hJ f hf => cw_mid kd i hi v hv hsb n k hk cl hJ f hf E hE
 show AK _ _ _ [.c b_law16_ClusterWritesD] _ _
 rw [b_law16_ClusterWritesD] at hmid ⊢
 simp only [sndW] at hmid
 refine kW ?_
 refine kQ [.v (.bool v.light_)] ?_
 refine kC (fun hb => ?_) fun hb => ?_
 ·refine kW ?_
  refine kQ [.v (.bool true)] ?_
  refine kW ?_
  refine AK.ret ⟨_, rfl, ?_⟩
  rfl
 have hb2 : ops.length ≤ 60 ∧ v.light_ = true := by
  have := hb
  simp [rowsP_len] at this
  exact ⟨by omega, this.2⟩
 obtain ⟨hlen, hlt⟩ := hb2
 have hv := V.light_size hlt
 clear hb
 refine kW ?_
 refine kQ [.s [] (cluN 1000100 1900101 Clu.new) (.np 1000100 0)] ?_
 refine kW ?_
 refine AK.loopI (cwJ ops kd i v n) (fun x => x.1 ≤ ops.length ∧ CluJ x.1 x.2.1 ∧ fiOk x.2.1 x.2.2) (fun x => ops.length - x.1) (0, Clu.new, none) ⟨Nat.zero_le _, CluJ.new, rfl⟩ (Weak.introN ⟨kI, kI, kI, kI, kI, trivial⟩ ⟨kJ, kJ, kJ, trivial⟩ rfl rfl ⟨rfl, rfl, trivial⟩) fun ⟨k, cl, f⟩ hI => ?_
 obtain ⟨hk, hJ, hf⟩ := hI
 dsimp only at hk hJ hf
 have hmid := hmid (by omega) k (by omega) cl hJ f hf
 rcases f with _ | ⟨_ | _, cap, sp⟩
 ·show AK _ _ _ _ (frOf _) _
  refine kW ?_
  refine kC (fun hb => ?_) fun hb => ?_
  ·have hlt2 : k < ops.length := by simpa [rowsP_len] using hb
   obtain ⟨o, hg⟩ : ∃ x, ops[k]? = some x := ⟨_, List.getElem?_eq_getElem hlt2⟩
   obtain ⟨hoi, hos, hon⟩ := hops o (List.mem_of_getElem? hg)
   have hL2 := light_a o.v hos
   clear hb hmid
   refine kW ?_
   refine kP [.c (opC o.kd o.i o.v o.n)] ?_ ?_
   ·((repeat' apply And.intro) <;> first | exact kD | (intro hgd; refine ⟨?_, kG⟩; (repeat' apply And.intro) <;> first | exact kD | skip) | skip)
    all_goals exact rowsP_at hg
   refine kW ?_
   refine kQ [.v (.bool o.v.light_)] ?_
   refine kC (fun hb => ?_) fun hb => ?_
   ·refine kW ?_
    refine kQ [.v (.bool true)] ?_
    refine kW ?_
    refine AK.ret ⟨_, rfl, ?_⟩
    rfl
   have hov : o.v.size ≤ 1000000 := by
    have := V.light_size (v := o.v) (by simpa using hb)
    omega
   clear hb
   refine kW ?_
   have hD := doN k (by omega) cl hJ o.kd o.i hoi o.v hov hos o.n hon hf
   refine AK.regaX fw0 [.s [] [(1000103, qS 0 0 0 0)] (.np 1000103 0), .v .top] (fun j => if j = 3 then some ⟨Clu × FI × Bool, doI (k + 1), fun x => YA x.1 x.2.1, fun x => .bool x.2.2, [1000100, 1900101, 1000103]⟩ else none) (doI (k + 1)) (fun _ => frOf [(3, .ptr 3 0), (5, .np 1000100 0), (28, .lst .any 11 (rowsP ops)), (29, .int .i64 (rowsP ops).length), (30, .int .i64 k)]) (fun x => ⟨boxOf ((3, opC kd i v n, false) :: YBA x.1 x.2.1), fun _ => 0⟩) ?_ fun x hx => ?_
   ·(repeat' (first | exact trivial | apply And.intro | rintro ⟨c', (_ | ⟨_ | _, cap', sp'⟩), b⟩ hx))
    all_goals first
     | (show _ = _; exact rfl)
     | (show MS _ _ _ _ _ _; exact newR_m)
     | (show MSX _ _ _ _ _ _ _; exact hD)
     | (show (((true && (true && (true && ((fC c'.fails sp').all (AV.inS [1000100, 1900101, 1000101]) && true)))) && true) && true) = true; rw [all_rowsJ (fun _ => rfl) rfl]; rfl)
     | (show (((true && (true && (true && (true && true)))) && (true && (true && ((fC c'.fails sp').all (AV.inS [1000100, 1900101, 1000101]) && true))) && true) && true) = true; rw [all_rowsJ (fun _ => rfl) rfl]; rfl)
     | (show (((true && (true && (true && ((fC c'.fails sp').all (AV.inS [1000100, 1900101, 1000102]) && true)))) && true) && true) = true; rw [all_rowsJ (fun _ => rfl) rfl]; rfl)
     | (show (((true && (true && (true && (true && true)))) && (true && (true && ((fC c'.fails sp').all (AV.inS [1000100, 1900101, 1000102]) && true))) && true) && true) = true; rw [all_rowsJ (fun _ => rfl) rfl]; rfl)
     | exact ⟨(c', none, b), hx, Weak.introN ⟨kI, kI, kI, kI, kI, trivial⟩ ⟨kJ, kJ, kJ, trivial⟩ rfl rfl ⟨rfl, rfl, trivial⟩⟩
     | exact ⟨(c', some (false, cap', sp'), b), hx, Weak.introN ⟨kI, kI, kI, kI, kI, trivial⟩ ⟨kJ, kJ, kJ, kJ, trivial⟩ rfl rfl ⟨rfl, rfl, all_rowsJ (fun _ => rfl) rfl _ _, trivial⟩⟩
     | exact ⟨(c', some (true, cap', sp'), b), hx, Weak.introN ⟨kI, kI, kI, kI, kI, trivial⟩ ⟨kJ, kJ, kJ, kJ, trivial⟩ rfl rfl ⟨rfl, rfl, all_rowsJ (fun _ => rfl) rfl _ _, trivial⟩⟩
   ·obtain ⟨c', f', b⟩ := x
    obtain ⟨hJ', hf'⟩ := hx
    dsimp only
    generalize f' = g at *
    have hw1 : IntKind.i64.wrap ((k : Int) + 1) = ((k + 1 : Nat) : Int) := by rw [wrap_in (by omega) (by omega)]; omega
    rcases g with _ | ⟨_ | _, cap', sp'⟩
    ·show AK _ _ _ _ (frOf _) _
     refine kW ?_
     exact AK.lp ⟨(k + 1, c', none), ⟨by omega, hJ', hf'⟩, Weak.introN ⟨kI, kI, kI, kI, kU, trivial⟩ ⟨kJ, kJ, kJ, trivial⟩ rfl rfl ⟨rfl, rfl, trivial⟩, by dsimp only; omega⟩
    ·show AK _ _ _ _ (frOf _) _
     refine kW ?_
     exact AK.lp ⟨(k + 1, c', some (false, cap', sp')), ⟨by omega, hJ', hf'⟩, Weak.introN ⟨kI, kI, kI, kI, kU, trivial⟩ ⟨kJ, kJ, kJ, kJ, trivial⟩ rfl rfl ⟨rfl, rfl, all_rowsJ (fun _ => rfl) rfl _ _, trivial⟩, by dsimp only; omega⟩
    ·show AK _ _ _ _ (frOf _) _
     refine kW ?_
     exact AK.lp ⟨(k + 1, c', some (true, cap', sp')), ⟨by omega, hJ', hf'⟩, Weak.introN ⟨kI, kI, kI, kI, kU, trivial⟩ ⟨kJ, kJ, kJ, kJ, trivial⟩ rfl rfl ⟨rfl, rfl, all_rowsJ (fun _ => rfl) rfl _ _, trivial⟩, by dsimp only; omega⟩
  ·refine AK.exit rfl ?_
   refine AK.weak (Weak.introN (L := [(3, .ptr 3 0), (5, .np 1000100 0)]) (BL := (3, opC kd i v n, false) :: YBA cl (none)) ⟨kI, kI, trivial⟩ ⟨kJ, kJ, kJ, trivial⟩ rfl rfl ⟨rfl, rfl, trivial⟩) ?_
   exact hmid
 ·show AK _ _ _ _ (frOf _) _
  refine kW ?_
  refine kC (fun hb => ?_) fun hb => ?_
  ·have hlt2 : k < ops.length := by simpa [rowsP_len] using hb
   obtain ⟨o, hg⟩ : ∃ x, ops[k]? = some x := ⟨_, List.getElem?_eq_getElem hlt2⟩
   obtain ⟨hoi, hos, hon⟩ := hops o (List.mem_of_getElem? hg)
   have hL2 := light_a o.v hos
   clear hb hmid
   refine kW ?_
   refine kP [.c (opC o.kd o.i o.v o.n)] ?_ ?_
   ·((repeat' apply And.intro) <;> first | exact kD | (intro hgd; refine ⟨?_, kG⟩; (repeat' apply And.intro) <;> first | exact kD | skip) | skip)
    all_goals exact rowsP_at hg
   refine kW ?_
   refine kQ [.v (.bool o.v.light_)] ?_
   refine kC (fun hb => ?_) fun hb => ?_
   ·refine kW ?_
    refine kQ [.v (.bool true)] ?_
    refine kW ?_
    refine AK.ret ⟨_, rfl, ?_⟩
    rfl
   have hov : o.v.size ≤ 1000000 := by
    have := V.light_size (v := o.v) (by simpa using hb)
    omega
   clear hb
   refine kW ?_
   have hD := doA k (by omega) cl hJ o.kd o.i hoi o.v hov hos o.n hon (cap, sp) hf
   have hD : MSX Tryz.prog 9 (cluF 1000100 1900101 cl (.sli 1000101 1 cl.fails.length cap) ++ [(1000101, ((fC cl.fails sp).map (clrC [1000103])).map AV.told)] ++ [(1000103, qS 0 0 0 0)]) [.np 1000100 0, .np 1000103 0, .agg (opC o.kd o.i o.v o.n)] (doI (k + 1)) (fun x => YA x.1 x.2.1) (fun x => .bool x.2.2) := by
    rw [clr_rowsJ]
    exact hD
   refine AK.regaX fw0 [.s [] [(1000103, qS 0 0 0 0)] (.np 1000103 0), .v .top] (fun j => if j = 3 then some ⟨Clu × FI × Bool, doI (k + 1), fun x => YA x.1 x.2.1, fun x => .bool x.2.2, [1000100, 1900101, 1000101, 1000103]⟩ else none) (doI (k + 1)) (fun _ => frOf [(3, .ptr 3 0), (5, .np 1000100 0), (28, .lst .any 11 (rowsP ops)), (29, .int .i64 (rowsP ops).length), (30, .int .i64 k)]) (fun x => ⟨boxOf ((3, opC kd i v n, false) :: YBA x.1 x.2.1), fun _ => 0⟩) ?_ fun x hx => ?_
   ·(repeat' (first | exact trivial | apply And.intro | rintro ⟨c', (_ | ⟨_ | _, cap', sp'⟩), b⟩ hx))
    all_goals first
     | (show _ = _; exact rfl)
     | (show MS _ _ _ _ _ _; exact newR_m)
     | (show MSX _ _ _ _ _ _ _; exact hD)
     | (show (((true && (true && (true && ((fC c'.fails sp').all (AV.inS [1000100, 1900101, 1000101]) && true)))) && true) && true) = true; rw [all_rowsJ (fun _ => rfl) rfl]; rfl)
     | (show (((true && (true && (true && (true && true)))) && (true && (true && ((fC c'.fails sp').all (AV.inS [1000100, 1900101, 1000101]) && true))) && true) && true) = true; rw [all_rowsJ (fun _ => rfl) rfl]; rfl)
     | (show (((true && (true && (true && ((fC c'.fails sp').all (AV.inS [1000100, 1900101, 1000102]) && true)))) && true) && true) = true; rw [all_rowsJ (fun _ => rfl) rfl]; rfl)
     | (show (((true && (true && (true && (true && true)))) && (true && (true && ((fC c'.fails sp').all (AV.inS [1000100, 1900101, 1000102]) && true))) && true) && true) = true; rw [all_rowsJ (fun _ => rfl) rfl]; rfl)
     | exact ⟨(c', none, b), hx, Weak.introN ⟨kI, kI, kI, kI, kI, trivial⟩ ⟨kJ, kJ, kJ, trivial⟩ rfl rfl ⟨rfl, rfl, trivial⟩⟩
     | exact ⟨(c', some (false, cap', sp'), b), hx, Weak.introN ⟨kI, kI, kI, kI, kI, trivial⟩ ⟨kJ, kJ, kJ, kJ, trivial⟩ rfl rfl ⟨rfl, rfl, all_rowsJ (fun _ => rfl) rfl _ _, trivial⟩⟩
     | exact ⟨(c', some (true, cap', sp'), b), hx, Weak.introN ⟨kI, kI, kI, kI, kI, trivial⟩ ⟨kJ, kJ, kJ, kJ, trivial⟩ rfl rfl ⟨rfl, rfl, all_rowsJ (fun _ => rfl) rfl _ _, trivial⟩⟩
   ·obtain ⟨c', f', b⟩ := x
    obtain ⟨hJ', hf'⟩ := hx
    dsimp only
    generalize f' = g at *
    have hw1 : IntKind.i64.wrap ((k : Int) + 1) = ((k + 1 : Nat) : Int) := by rw [wrap_in (by omega) (by omega)]; omega
    rcases g with _ | ⟨_ | _, cap', sp'⟩
    ·show AK _ _ _ _ (frOf _) _
     refine kW ?_
     exact AK.lp ⟨(k + 1, c', none), ⟨by omega, hJ', hf'⟩, Weak.introN ⟨kI, kI, kI, kI, kU, trivial⟩ ⟨kJ, kJ, kJ, trivial⟩ rfl rfl ⟨rfl, rfl, trivial⟩, by dsimp only; omega⟩
    ·show AK _ _ _ _ (frOf _) _
     refine kW ?_
     exact AK.lp ⟨(k + 1, c', some (false, cap', sp')), ⟨by omega, hJ', hf'⟩, Weak.introN ⟨kI, kI, kI, kI, kU, trivial⟩ ⟨kJ, kJ, kJ, kJ, trivial⟩ rfl rfl ⟨rfl, rfl, all_rowsJ (fun _ => rfl) rfl _ _, trivial⟩, by dsimp only; omega⟩
    ·show AK _ _ _ _ (frOf _) _
     refine kW ?_
     exact AK.lp ⟨(k + 1, c', some (true, cap', sp')), ⟨by omega, hJ', hf'⟩, Weak.introN ⟨kI, kI, kI, kI, kU, trivial⟩ ⟨kJ, kJ, kJ, kJ, trivial⟩ rfl rfl ⟨rfl, rfl, all_rowsJ (fun _ => rfl) rfl _ _, trivial⟩, by dsimp only; omega⟩
  ·refine AK.exit rfl ?_
   refine AK.weak (Weak.introN (L := [(3, .ptr 3 0), (5, .np 1000100 0)]) (BL := (3, opC kd i v n, false) :: YBA cl (some (false, cap, sp))) ⟨kI, kI, trivial⟩ ⟨kJ, kJ, kJ, kJ, trivial⟩ rfl rfl ⟨rfl, rfl, all_rowsJ (fun _ => rfl) rfl _ _, trivial⟩) ?_
   exact hmid
 ·show AK _ _ _ _ (frOf _) _
  refine kW ?_
  refine kC (fun hb => ?_) fun hb => ?_
  ·have hlt2 : k < ops.length := by simpa [rowsP_len] using hb
   obtain ⟨o, hg⟩ : ∃ x, ops[k]? = some x := ⟨_, List.getElem?_eq_getElem hlt2⟩
   obtain ⟨hoi, hos, hon⟩ := hops o (List.mem_of_getElem? hg)
   have hL2 := light_a o.v hos
   clear hb hmid
   refine kW ?_
   refine kP [.c (opC o.kd o.i o.v o.n)] ?_ ?_
   ·((repeat' apply And.intro) <;> first | exact kD | (intro hgd; refine ⟨?_, kG⟩; (repeat' apply And.intro) <;> first | exact kD | skip) | skip)
    all_goals exact rowsP_at hg
   refine kW ?_
   refine kQ [.v (.bool o.v.light_)] ?_
   refine kC (fun hb => ?_) fun hb => ?_
   ·refine kW ?_
    refine kQ [.v (.bool true)] ?_
    refine kW ?_
    refine AK.ret ⟨_, rfl, ?_⟩
    rfl
   have hov : o.v.size ≤ 1000000 := by
    have := V.light_size (v := o.v) (by simpa using hb)
    omega
   clear hb
   refine kW ?_
   have hD := doB k (by omega) cl hJ o.kd o.i hoi o.v hov hos o.n hon (cap, sp) hf
   have hD : MSX Tryz.prog 9 (cluF 1000100 1900101 cl (.sli 1000102 1 cl.fails.length cap) ++ [(1000102, ((fC cl.fails sp).map (clrC [1000103])).map AV.told)] ++ [(1000103, qS 0 0 0 0)]) [.np 1000100 0, .np 1000103 0, .agg (opC o.kd o.i o.v o.n)] (doI (k + 1)) (fun x => YC x.1 x.2.1) (fun x => .bool x.2.2) := by
    rw [clr_rowsJ]
    exact hD
   refine AK.regaX fw0 [.s [] [(1000103, qS 0 0 0 0)] (.np 1000103 0), .v .top] (fun j => if j = 3 then some ⟨Clu × FI × Bool, doI (k + 1), fun x => YC x.1 x.2.1, fun x => .bool x.2.2, [1000100, 1900101, 1000102, 1000103]⟩ else none) (doI (k + 1)) (fun _ => frOf [(3, .ptr 3 0), (5, .np 1000100 0), (28, .lst .any 11 (rowsP ops)), (29, .int .i64 (rowsP ops).length), (30, .int .i64 k)]) (fun x => ⟨boxOf ((3, opC kd i v n, false) :: YBA x.1 (twF x.2.1)), fun _ => 0⟩) ?_ fun x hx => ?_
   ·(repeat' (first | exact trivial | apply And.intro | rintro ⟨c', (_ | ⟨_ | _, cap', sp'⟩), b⟩ hx))
    all_goals first
     | (show _ = _; exact rfl)
     | (show MS _ _ _ _ _ _; exact newR_m)
     | (show MSX _ _ _ _ _ _ _; exact hD)
     | (show (((true && (true && (true && ((fC c'.fails sp').all (AV.inS [1000100, 1900101, 1000102]) && true)))) && true) && true) = true; rw [all_rowsJ (fun _ => rfl) rfl]; rfl)
     | (show (((true && (true && (true && (true && true)))) && (true && (true && ((fC c'.fails sp').all (AV.inS [1000100, 1900101, 1000102]) && true))) && true) && true) = true; rw [all_rowsJ (fun _ => rfl) rfl]; rfl)
     | (show (((true && (true && (true && ((fC c'.fails sp').all (AV.inS [1000100, 1900101, 1000101]) && true)))) && true) && true) = true; rw [all_rowsJ (fun _ => rfl) rfl]; rfl)
     | (show (((true && (true && (true && (true && true)))) && (true && (true && ((fC c'.fails sp').all (AV.inS [1000100, 1900101, 1000101]) && true))) && true) && true) = true; rw [all_rowsJ (fun _ => rfl) rfl]; rfl)
     | exact ⟨(c', none, b), hx, Weak.introN ⟨kI, kI, kI, kI, kI, trivial⟩ ⟨kJ, kJ, kJ, trivial⟩ rfl rfl ⟨rfl, rfl, trivial⟩⟩
     | exact ⟨(c', some (false, cap', sp'), b), hx, Weak.introN ⟨kI, kI, kI, kI, kI, trivial⟩ ⟨kJ, kJ, kJ, kJ, trivial⟩ rfl rfl ⟨rfl, rfl, all_rowsJ (fun _ => rfl) rfl _ _, trivial⟩⟩
     | exact ⟨(c', some (true, cap', sp'), b), hx, Weak.introN ⟨kI, kI, kI, kI, kI, trivial⟩ ⟨kJ, kJ, kJ, kJ, trivial⟩ rfl rfl ⟨rfl, rfl, all_rowsJ (fun _ => rfl) rfl _ _, trivial⟩⟩
   ·obtain ⟨c', f', b⟩ := x
    obtain ⟨hJ', hf'⟩ := hx
    have hf' := twF_ok hf'
    dsimp only
    generalize twF f' = g at *
    have hw1 : IntKind.i64.wrap ((k : Int) + 1) = ((k + 1 : Nat) : Int) := by rw [wrap_in (by omega) (by omega)]; omega
    rcases g with _ | ⟨_ | _, cap', sp'⟩
    ·show AK _ _ _ _ (frOf _) _
     refine kW ?_
     exact AK.lp ⟨(k + 1, c', none), ⟨by omega, hJ', hf'⟩, Weak.introN ⟨kI, kI, kI, kI, kU, trivial⟩ ⟨kJ, kJ, kJ, trivial⟩ rfl rfl ⟨rfl, rfl, trivial⟩, by dsimp only; omega⟩
    ·show AK _ _ _ _ (frOf _) _
     refine kW ?_
     exact AK.lp ⟨(k + 1, c', some (false, cap', sp')), ⟨by omega, hJ', hf'⟩, Weak.introN ⟨kI, kI, kI, kI, kU, trivial⟩ ⟨kJ, kJ, kJ, kJ, trivial⟩ rfl rfl ⟨rfl, rfl, all_rowsJ (fun _ => rfl) rfl _ _, trivial⟩, by dsimp only; omega⟩
    ·show AK _ _ _ _ (frOf _) _
     refine kW ?_
     exact AK.lp ⟨(k + 1, c', some (true, cap', sp')), ⟨by omega, hJ', hf'⟩, Weak.introN ⟨kI, kI, kI, kI, kU, trivial⟩ ⟨kJ, kJ, kJ, kJ, trivial⟩ rfl rfl ⟨rfl, rfl, all_rowsJ (fun _ => rfl) rfl _ _, trivial⟩, by dsimp only; omega⟩
  ·refine AK.exit rfl ?_
   refine AK.weak (Weak.introN (L := [(3, .ptr 3 0), (5, .np 1000100 0)]) (BL := (3, opC kd i v n, false) :: YBA cl (some (true, cap, sp))) ⟨kI, kI, trivial⟩ ⟨kJ, kJ, kJ, kJ, trivial⟩ rfl rfl ⟨rfl, rfl, all_rowsJ (fun _ => rfl) rfl _ _, trivial⟩) ?_
   exact hmid
end Go.Proofs.YtgidajjjpeboeaaGreatDoor
