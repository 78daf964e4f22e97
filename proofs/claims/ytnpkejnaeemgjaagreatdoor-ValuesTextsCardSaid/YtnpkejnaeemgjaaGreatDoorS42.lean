/-
  The texts that the claim wants, one behind the other: part 42.
-/
import Derived.Test.YtnpkejnaeemgjaaGreatDoorS41
import Derived.BigQuiet
import Derived.Deep.RegionWith
set_option linter.unusedSimpArgs false
set_option linter.unusedVariables false
namespace Go.Proofs.YtnpkejnaeemgjaaGreatDoor
open Go.RowKit
theorem nanS_any (a : ByteArray) (w : World) : Calls Tryz.prog 106 #[.string a] w fun e w' => e = .returned (.bool false) ∧ w' = w := by
 go_enter Tryz.func106, Tryz.ntmps106
 go_wp2_with fail
 go_ret
 exact ⟨by simp, rfl⟩
theorem cmpS_three (a b : ByteArray) : cmpS a b = -1 ∨ cmpS a b = 0 ∨ cmpS a b = 1 := by
 unfold cmpS
 generalize a.data.toList = x
 generalize b.data.toList = y
 induction x generalizing y with
 | nil => cases y <;> simp [Lib.compareBytes]
 | cons c x ih =>
  cases y with
  | nil => simp [Lib.compareBytes]
  | cons d y =>
   rw [Lib.compareBytes]
   (repeat' split) <;> first | exact .inl rfl | exact .inr (.inl rfl) | exact .inr (.inr rfl) | exact ih y
set_option maxRecDepth 100000 in
theorem cmpS_any (a b : ByteArray) (w : World) : Calls Tryz.prog 67 #[.string a, .string b] w fun e w' => e = .returned (.int .i64 (cmpS a b)) ∧ w' = w := by
 have h1 := Lib.hid fun a => nanS_any a w
 have h3 := cmpS_three a b
 have h4 := cmpS_lt (a := a) (b := b)
 have h5 := cmpS_anti a b
 have h6 := cmpS_eq (a := a) (b := b)
 obtain ⟨R, hR⟩ : ∃ R, cmpS a b = R := ⟨_, rfl⟩
 rw [hR] at h3 h4 h5 h6 ⊢
 unfold klt at h4 h5
 cases hab : Op.bytesLess a.toList b.toList with
 | true =>
  have e1 : R = -1 := by have := h4.2 hab; omega
  subst e1
  clear hR h3 h4 h5 h6
  go_enter Tryz.func67, Tryz.ntmps67
  go_wp2_with (go_at_call 106; refine (h1.out _).mono ?_; rintro e w1 ⟨rfl, rfl⟩)
  go_ret
  exact ⟨rfl, rfl⟩
 | false =>
  cases hba : Op.bytesLess b.toList a.toList with
  | true =>
   have e1 : R = 1 := by have := h5.2 hba; omega
   have hne : (a.toList == b.toList) = false := by
    refine beq_eq_false_iff_ne.2 fun e => klt_ne (a := b) (b := a) hba ?_
    rw [ByteArray.toList_eq, ByteArray.toList_eq] at e
    exact (ByteArray.ext (Array.toList_inj.1 e)).symm
   subst e1
   clear hR h3 h4 h5 h6
   go_enter Tryz.func67, Tryz.ntmps67
   go_wp2_with (go_at_call 106; refine (h1.out _).mono ?_; rintro e w1 ⟨rfl, rfl⟩)
   go_ret
   exact ⟨rfl, rfl⟩
  | false =>
   have e1 : R = 0 := by
    have k1 : ¬ R < 0 := fun h => by rw [h4.1 h] at hab; cases hab
    have k2 : ¬ 0 < R := fun h => by rw [h5.1 h] at hba; cases hba
    omega
   have hne : (a.toList == b.toList) = true := by rw [h6.1 e1]; simp
   subst e1
   clear hR h3 h4 h5 h6
   go_enter Tryz.func67, Tryz.ntmps67
   go_wp2_with (go_at_call 106; refine (h1.out _).mono ?_; rintro e w1 ⟨rfl, rfl⟩)
   go_ret
   exact ⟨rfl, rfl⟩
theorem kCt {P : Program} {E : Env} {Q : Exit → Fr → St → Prop} {k : List AItem} {fr : Fr} {st : St} {x : Opd} {t e : ACode} (h1 : AK P E Q (.c t :: k) fr st) (hx : x.ev fr = some (.bool true) := by rfl) : AK P E Q (.c (.cond x t e) :: k) fr st := AK.cond hx (fun _ => h1) fun h => by cases h
theorem kCf {P : Program} {E : Env} {Q : Exit → Fr → St → Prop} {k : List AItem} {fr : Fr} {st : St} {x : Opd} {t e : ACode} (h1 : AK P E Q (.c e :: k) fr st) (hx : x.ev fr = some (.bool false) := by rfl) : AK P E Q (.c (.cond x t e) :: k) fr st := AK.cond hx (fun h => by cases h) fun _ => h1
end Go.Proofs.YtnpkejnaeemgjaaGreatDoor
namespace Go.Proofs.YtnpkejnaeemgjaaGreatDoor
open Go.RowKit Go.Sort Go.Lib Go.Shelf
theorem file1_a (y t n x : ByteArray) : AC Tryz.prog 63 [.agg [.str y, .str t], .ro [.str n, .str x]] (.bool (decide (y = n))) := by
 refine kE Tryz.func63 a_chart_files_1_ok a_chart_files_1_cb fun E hE => ?_
 refine kW ?_
 refine AK.ret ⟨_, rfl, ?_⟩
 rfl
def atF (n : ByteArray) : List Fl → Nat → Int
 | [], _ => -1
 | p :: l, k => if p.1 = n then k else atF n l (k + 1)
theorem atF_mem (n : ByteArray) : ∀ (l : List Fl) (k : Nat), decide (0 ≤ atF n l k) = l.any fun g => decide (g.1 = n)
 | [], k => by rw [atF]; rfl
 | p :: l, k => by
  rw [atF, List.any_cons]
  by_cases h : p.1 = n
  ·rw [if_pos h, decide_eq_true h, Bool.true_or]
   exact decide_eq_true (by omega)
  ·rw [if_neg h, decide_eq_false h, Bool.false_or, atF_mem n l (k + 1)]
theorem atF_drop {n : ByteArray} {l : List Fl} {k : Nat} {p : Fl} (h : l[k]? = some p) : atF n (l.drop k) k = if p.1 = n then (k : Int) else atF n (l.drop (k + 1)) (k + 1) := by
 obtain ⟨hk, e⟩ := List.getElem?_eq_some_iff.1 h
 rw [List.drop_eq_getElem_cons hk, e, atF]
theorem fileIx_a (l : List Fl) (n x : ByteArray) (hl : l.length ≤ 4398046511104) : AC Tryz.prog 103 [.lst .any 2 (rowsF l), .fn 63 [.ro [.str n, .str x]]] (.int .i64 (atF n l 0)) := by
 refine kE Tryz.func103 a_slices_IndexFunc_File_ok a_slices_IndexFunc_File_cb fun E hE => ?_
 refine kW ?_
 refine AK.loopI (fun k : Nat => (frOf [(0, .lst .any 2 (rowsF l)), (1, .fn 63 [.ro [.str n, .str x]]), (7, .int .i64 (rowsF l).length), (8, .int .i64 k)], ⟨boxOf [], fun _ => 0⟩)) (fun k => k ≤ l.length ∧ atF n l 0 = atF n (l.drop k) k) (fun k => l.length - k) 0 ⟨Nat.zero_le _, rfl⟩ (Weak.intro ⟨kI, kI, kI, kI, trivial⟩ trivial rfl rfl) fun k hk => ?_
 obtain ⟨hk, hr⟩ := hk
 refine kW ?_
 refine kC (fun hb => ?_) fun hb => ?_
 ·have hlt : k < l.length := by simpa [rowsF_len] using hb
  obtain ⟨p, hg⟩ : ∃ x, l[k]? = some x := ⟨_, List.getElem?_eq_getElem hlt⟩
  have hp := file1_a p.1 p.2 n x
  rw [atF_drop hg] at hr
  have hll := rowsF_len l
  clear hb
  refine kW ?_
  refine kP [.c [.str p.1, .str p.2], .v (.bool (decide (p.1 = n)))] ?_ ?_
  ·((repeat' apply And.intro) <;> first | exact kD | (intro hgd; refine ⟨?_, kG⟩; (repeat' apply And.intro) <;> first | exact kD | skip) | skip)
   exact rowsF_at hg
  refine kC (fun hb => ?_) fun hb => ?_
  ·rw [if_pos (of_decide_eq_true hb)] at hr
   refine kW ?_
   refine AK.ret ⟨_, rfl, ?_⟩
   exact congrArg (AV.int _) hr.symm
  ·rw [if_neg (of_decide_eq_false hb)] at hr
   refine kW ?_
   exact AK.lp ⟨k + 1, ⟨by omega, hr⟩, Weak.intro ⟨kI, kI, kI, kU, trivial⟩ trivial rfl rfl, by omega⟩
 ·have hlt : k = l.length := by
   have : l.length ≤ k := by simpa [rowsF_len] using hb
   omega
  subst hlt
  rw [List.drop_length, atF] at hr
  refine AK.exit rfl ?_
  refine kW ?_
  refine AK.ret ⟨_, rfl, ?_⟩
  rw [hr]
  rfl
theorem fileHas_a (l : List Fl) (n x : ByteArray) (hl : l.length ≤ 4398046511104) : AC Tryz.prog 62 [.lst .any 2 (rowsF l), .fn 63 [.ro [.str n, .str x]]] (.bool (l.any fun g => decide (g.1 = n))) := by
 have h := fileIx_a l n x hl
 rw [← atF_mem n l 0]
 refine kE Tryz.func62 a_slices_ContainsFunc_File_ok a_slices_ContainsFunc_File_cb fun E hE => ?_
 refine kW ?_
 refine kQ [.v (.int .i64 (atF n l 0))] ?_
 refine kW ?_
 refine AK.ret ⟨_, rfl, ?_⟩
 rfl
theorem growAB (w : World) (A B : Obj) : (w.alloc A).alloc B = grow (w.drewN 0) #[A, B] := by
 have h : (w.heap.push A).push B = w.heap ++ #[A, B] := by
  apply Array.ext'
  simp
 unfold grow World.drewN World.alloc
 simp only
 rw [← h]
 rfl
set_option maxRecDepth 100000 in
theorem file2_any (a b c d : ByteArray) (w : World) :
  Calls Tryz.prog 66 #[.agg #[.string a, .string b], .agg #[.string c, .string d]] w fun e w' => e = .returned (.int .i64 (cmpS a c)) ∧ ∃ q os, w' = grow (w.drewN q) os := by
 obtain ⟨R, hR⟩ : ∃ R, cmpS a c = R := ⟨_, rfl⟩
 have hc := Lib.hid fun w => cmpS_any a c w
 rw [hR] at hc ⊢
 clear hR
 go_enter Tryz.func66, Tryz.ntmps66
 go_wp2_with (go_at_call 67; refine (hc.out _).mono ?_; rintro e1 w1 ⟨rfl, rfl⟩)
 go_ret
 exact ⟨rfl, 0, _, growAB w _ _⟩
def encF (p : Fl) : List AV := [.str p.1, .str p.2]
theorem encF_clean (p : Fl) : ∀ c ∈ encF p, c.clean = true := by
 intro c hc
 simp [encF] at hc
 rcases hc with rfl | rfl <;> rfl
theorem rowsF_ok (l : List Fl) : RowsOk 2 (rowsF l) := ⟨by omega, fun c hc => by
 obtain ⟨o, _, rfl⟩ := List.mem_map.1 hc
 exact ⟨rfl, rfl⟩⟩
theorem cells2 {σ : Sg} {cs : List Value} {p : Fl} (h : RelL σ cs (encF p)) : cs.toArray = #[.string p.1, .string p.2] := by
 have hl := h.1
 rcases cs with _ | ⟨x1, _ | ⟨x2, _ | ⟨_, _⟩⟩⟩ <;> simp [encF] at hl
 have h1 : Rel1 σ x1 (.str p.1) := h.2 0 _ _ rfl rfl
 have h2 : Rel1 σ x2 (.str p.2) := h.2 1 _ _ rfl rfl
 cases h1; cases h2
 rfl
theorem sortFl_ms (l : List Fl) (hnd : (l.map (·.1)).Nodup) (hlen : l.length ≤ 1000000) (cap m : Nat) (hcap : l.length ≤ cap) (hz : ((rowsF l).flatten ++ List.replicate m AV.top).length = cap * 2) :
  MS Tryz.prog 65 [(2000000, (rowsF l).flatten ++ List.replicate m AV.top)] [.sli 2000000 2 l.length cap, .fn 66 []] [(2000000, (rowsF (sortF l)).flatten ++ List.replicate m AV.top)] (.tup []) :=
 sort_ms Tryz.sortFl (by kernel_rfl) Tryz.isAgg36 Tryz.sizeOf36 encF (fun _ => rfl) encF_clean cmpS_ok (fun p : Fl => p.1) hnd (by omega) (sortF_perm l) ((sortF_rises l hnd).imp fun {a b} h => cmpS_lt.2 h) _ (enters_of Tryz.func66 (by kernel_rfl) rfl) (fun σ cs ds x y _ _ h1 h2 W hW => by
  rw [cells2 h1, cells2 h2]
  exact file2_any _ _ _ _ W) cap m hcap hz
def rhoF (i : Nat) : Nat := if i = 2000000 then 1000001 else if i = 1000001 then 2000000 else i
theorem rhoF_inj (i j : Nat) (h : rhoF i = rhoF j) : i = j := by
 unfold rhoF at h
 repeat' split at h
 all_goals omega
theorem rhoF_mp (i : Nat) : isMp (rhoF i) = isMp i := by
 unfold rhoF
 repeat' split
 all_goals first | (subst_vars; rfl) | rfl
theorem map_rowsF {g : AV → AV} (h1 : ∀ s, g (.str s) = .str s) (h2 : g .top = .top) (l : List Fl) (m : Nat) : ((rowsF l).flatten ++ List.replicate m AV.top).map g = (rowsF l).flatten ++ List.replicate m AV.top := by
 rw [List.map_append, List.map_replicate, h2]
 congr 1
 induction l with
 | nil => rfl
 | cons p l ih =>
  show ([AV.str p.1, AV.str p.2] ++ (rowsF l).flatten).map g = [AV.str p.1, AV.str p.2] ++ (rowsF l).flatten
  rw [List.map_append, ih]
  show [g (.str p.1), g (.str p.2)] ++ _ = _
  rw [h1, h1]
theorem all_rowsF {g : AV → Bool} (h1 : ∀ s, g (.str s) = true) (h2 : g .top = true) (l : List Fl) (m : Nat) : ((rowsF l).flatten ++ List.replicate m AV.top).all g = true := by
 rw [List.all_eq_true]
 intro c hc
 rcases List.mem_append.1 hc with hc | hc
 ·obtain ⟨r, hr, hcr⟩ := List.mem_flatten.1 hc
  obtain ⟨p, _, rfl⟩ := List.mem_map.1 hr
  simp at hcr
  rcases hcr with rfl | rfl <;> exact h1 _
 ·rw [(List.mem_replicate.1 hc).2]
  exact h2
theorem sortFl_mr (l : List Fl) (hnd : (l.map (·.1)).Nodup) (hlen : l.length ≤ 1000000) (cap m : Nat) (hcap : l.length ≤ cap) (hz : ((rowsF l).flatten ++ List.replicate m AV.top).length = cap * 2) :
  MS Tryz.prog 65 [(1000001, ((rowsF l).flatten ++ List.replicate m AV.top).map AV.told)] [.sli 1000001 2 l.length cap, .fn 66 []] [(1000001, (rowsF (sortF l)).flatten ++ List.replicate m AV.top)] (.tup []) := by
 have h := (sortFl_ms l hnd hlen cap m hcap hz).ren rhoF rhoF_inj rhoF_mp
 unfold renS at h
 simp only [List.map_cons, List.map_nil, map_rowsF (g := AV.ren rhoF) (fun _ => rfl) rfl] at h
 rw [map_rowsF (fun _ => rfl) rfl]
 exact h
theorem sortFlNil_a (f : AV) (hf : f.arg = some f) : AC Tryz.prog 65 [.lst .any 2 [], f] (.tup []) := by
 refine ⟨by kernel_rfl, fun σ w vs hh hr hg => ?_⟩
 obtain ⟨v1, v2, rfl⟩ : ∃ a b, vs = [a, b] := by
  have := hr.1
  rcases vs with _ | ⟨a, _ | ⟨b, _ | ⟨_, _⟩⟩⟩ <;> simp at this
  exact ⟨a, b, rfl⟩
 have h1 : Rel1 σ v1 (.lst .any 2 []) := hr.2 0 v1 _ rfl rfl
 cases h1 with
 | lst t esz l A n cap b o f hn hlen hA hsz hσ hr ht =>
  subst hn
  refine (AnyF.slices_SortFunc_none Tryz.sortFl A cap v2 w).mono ?_
  rintro e w' ⟨rfl, rfl⟩
  exact ⟨σ, .tuple #[], rfl, .refl _ _, hh, .refl _ _, [], rfl, rfl, fun j u x hu => by simp at hu⟩
theorem okS_rowF (l : List Fl) (m : Nat) (bx : Nat → Option (List AV × Bool)) : (okS [1000001] [(1000001, (rowsF l).flatten ++ List.replicate m AV.top)] (.tup []) && freeIds bx (newIds [1000001] [(1000001, (rowsF l).flatten ++ List.replicate m AV.top)])) = true := by
 have h := all_rowsF (g := AV.inS [1000001]) (fun _ => rfl) rfl l m
 unfold okS
 show (((true && true) && ((((rowsF l).flatten ++ List.replicate m AV.top).all (AV.inS [1000001])) && true) && true) && true) = true
 rw [h]
 rfl
set_option maxHeartbeats 4000000 in
theorem files_a (l : List Fl) (hl : l.length ≤ 4398046511103) (hz : ∀ p ∈ l, p.1.size ≤ 1000000) : AC Tryz.prog 25 [.lst .any 2 (rowsF l)] (.tup [.lst .any 2 (rowsF (filesP l).1), .str (filesP l).2.1, .int .i64 (filesP l).2.2]) := by
 generalize hR : filesP l = R
 have hRe : (filesP l).2.2 = 0 → l.length ≤ 32 ∧ (l.map (·.1)).Nodup ∧ (∀ f ∈ l, nameC f.1 = true ∧ f.2.size ≤ 65536) ∧ (filesP l).1 = sortF l ∧ (filesE [] l).2 = 0 := filesP_ok
 unfold filesP at hR
 refine kE Tryz.func25 a_chart_files_ok a_chart_files_cb fun E hE => ?_
 refine kW ?_
 refine kC (fun hb => ?_) fun hb => ?_
 ·have h32 : 32 < l.length := by
   have : (l.length : Int) > 32 := by simpa [rowsF_len] using hb
   omega
  rw [if_pos h32] at hR
  subst hR
  refine kW ?_
  refine AK.ret ⟨_, rfl, ?_⟩
  rfl
 have h32 : ¬ 32 < l.length := by
  have : ¬ (l.length : Int) > 32 := by simpa [rowsF_len] using hb
  omega
 rw [if_neg h32] at hR
 clear hb
 refine kW ?_
 refine AK.loopI (fun k : Nat => (frOf [(0, .lst .any 2 (rowsF l)), (10, .lst .any 2 (rowsF l)), (11, .int .i64 (rowsF l).length), (12, .int .i64 k)], ⟨boxOf [], fun _ => 0⟩)) (fun k => k ≤ l.length ∧ filesE [] l = filesE (l.take k) (l.drop k)) (fun k => l.length - k) 0 ⟨Nat.zero_le _, rfl⟩ (Weak.intro ⟨kI, kI, kI, kI, trivial⟩ trivial rfl rfl) fun k hk => ?_
 obtain ⟨hk, hE2⟩ := hk
 have hll := rowsF_len l
 refine kW ?_
 refine kC (fun hb => ?_) fun hb => ?_
 ·have hlt : k < l.length := by simpa [rowsF_len] using hb
  obtain ⟨p, hg⟩ : ∃ x, l[k]? = some x := ⟨_, List.getElem?_eq_getElem hlt⟩
  have hnm := name_a p.1 (hz p (List.mem_of_getElem? hg))
  have hst := filesE_at hg
  have hh := fileHas_a (l.take k) p.1 p.2 (by rw [List.length_take]; omega)
  have hh : AC Tryz.prog 62 [.lst .any 2 (List.drop (Int.toNat 0) (List.take (k : Int).toNat (rowsF l))), .fn 63 [.ro [.str p.1, .str p.2]]] (.bool ((l.take k).any fun g => decide (g.1 = p.1))) := by
   rw [show List.drop (Int.toNat 0) (List.take (k : Int).toNat (rowsF l)) = rowsF (l.take k) by
    rw [Int.toNat_natCast]
    unfold rowsF
    rw [List.map_take]
    rfl]
   exact hh
  rw [← hE2] at hst
  clear hb
  refine kW ?_
  refine kP [.c [.str p.1, .str p.2]] ?_ ?_
  ·((repeat' apply And.intro) <;> first | exact kD | (intro hgd; refine ⟨?_, kG⟩; (repeat' apply And.intro) <;> first | exact kD | skip) | skip)
   all_goals exact rowsF_at hg
  refine kW ?_
  refine kQ [.v (.bool (nameC p.1))] ?_
  cases hn : nameC p.1 with
  | false =>
   have hf : fileE (l.take k) p = 22 := by unfold fileE; rw [if_pos hn]
   rw [hf, if_pos (by decide)] at hst
   rw [hst, if_pos (by dsimp only; decide)] at hR
   subst hR
   refine kCt ?_
   refine kW ?_
   refine AK.ret ⟨_, rfl, ?_⟩
   rfl
  | true =>
   refine kCf ?_
   refine kW ?_
   refine kC (fun hb => ?_) fun hb => ?_
   ·have hs : 65536 < p.2.size := by
     have : (p.2.size : Int) > 65536 := by simpa using hb
     omega
    have hf : fileE (l.take k) p = 6 := by unfold fileE; rw [if_neg (by rw [hn]; simp), if_pos hs]
    rw [hf, if_pos (by decide)] at hst
    rw [hst, if_pos (by dsimp only; decide)] at hR
    subst hR
    refine kW ?_
    refine AK.ret ⟨_, rfl, ?_⟩
    rfl
   have hs : ¬ 65536 < p.2.size := by
    have : ¬ (p.2.size : Int) > 65536 := by simpa using hb
    omega
   clear hb
   refine kW ?_
   refine kP [.v (.bool ((l.take k).any fun g => decide (g.1 = p.1)))] ?_ ?_
   ·((repeat' apply And.intro) <;> first | exact kD | (intro hgd; refine ⟨?_, kG⟩; (repeat' apply And.intro) <;> first | exact kD | skip) | skip)
    all_goals omega
   cases ha : (l.take k).any fun g => decide (g.1 = p.1) with
   | true =>
    have hf : fileE (l.take k) p = 13 := by unfold fileE; rw [if_neg (by rw [hn]; simp), if_neg hs, if_pos ha]
    rw [hf, if_pos (by decide)] at hst
    rw [hst, if_pos (by dsimp only; decide)] at hR
    subst hR
    refine kCt ?_
    refine kW ?_
    refine AK.ret ⟨_, rfl, ?_⟩
    rfl
   | false =>
    have hf : fileE (l.take k) p = 0 := by unfold fileE; rw [if_neg (by rw [hn]; simp), if_neg hs, if_neg (by rw [ha]; simp)]
    rw [hf, if_neg (by decide)] at hst
    refine kCf ?_
    refine kW ?_
    exact AK.lp ⟨k + 1, ⟨by omega, hst⟩, Weak.intro ⟨kI, kI, kI, kU, trivial⟩ trivial rfl rfl, by omega⟩
 ·have hlt : k = l.length := by
   have : l.length ≤ k := by simpa [rowsF_len] using hb
   omega
  subst hlt
  clear hb hk
  rw [List.drop_length, filesE] at hE2
  rw [hE2, if_neg (by decide)] at hR
  subst hR
  have hR2 : (filesP l).2.2 = 0 := by
   unfold filesP
   rw [if_neg h32, hE2, if_neg (by decide)]
  obtain ⟨_, hnd, _, _, _⟩ := hRe hR2
  refine AK.exit rfl ?_
  by_cases hl0 : l = []
  ·subst hl0
   have h1 := cloneFl_nil
   have h2 := sortFlNil_a (.fn 66 []) rfl
   refine kW ?_
   refine kQ [.v (.lst .any 2 [])] ?_
   refine kW ?_
   refine kQ [.v (.tup [])] ?_
   refine kW ?_
   refine AK.ret ⟨_, rfl, ?_⟩
   rfl
  ·have hpos : 0 < l.length := List.length_pos_iff.2 hl0
   have h1 := cloneFl_mf (rowsF l) (by omega) (by omega)
   refine kW ?_
   refine kQ [.f 2 (rowsF l)] ?_
   refine AK.open 41 41 1000001 rfl (by omega) rfl fun cap m h1 h2 => ?_
   rw [rowsF_len] at h1
   have hS := sortFl_mr l hnd (by omega) cap m h1 h2
   have hokS := okS_rowF (sortF l) m
   have hsl := sortF_len l
   have hfl : ∀ l : List Fl, (rowsF l).flatten.length = l.length * 2 := fun l => by rw [(rowsF_ok l).flat.1, rowsF_len]
   have hC := RowCs.mk_ (rowsF_ok (sortF l)) (cap := cap) (m := m) (by rw [rowsF_len, hsl]; exact h1) (by
    have := h2
    rw [List.length_append, hfl] at this
    rw [List.length_append, hfl, hsl]
    exact this)
   refine AK.weak (Weak.introN (L := [(0, .sli 1000001 2 l.length cap), (41, .sli 1000001 2 l.length cap)]) (BL := [(1000001, (rowsF l).flatten ++ List.replicate m AV.top, false)]) ⟨⟨_, rfl, .of_eq (by show AV.sli 1000001 2 (rowsF l).length cap = _; rw [rowsF_len])⟩, ⟨_, rfl, .of_eq (by show AV.sli 1000001 2 (rowsF l).length cap = _; rw [rowsF_len])⟩, trivial⟩ ⟨kJ, trivial⟩ rfl rfl ⟨all_rowsF (fun _ => rfl) rfl _ _, trivial⟩) ?_
   refine kW ?_
   refine kP [.s [1000001] [(1000001, (rowsF (sortF l)).flatten ++ List.replicate m AV.top)] (.tup [])] ?_ ?_
   ·(repeat' apply And.intro) <;> first | exact hS | exact hokS _ | exact kD
   refine kW ?_
   refine AK.fz 1000001 rfl ?_
   refine AK.weak (Weak.introN (L := [(2, .lst .any 2 (rowsF (sortF l))), (3, .str ⟨#[]⟩), (4, .int .i64 0)]) (BL := []) ⟨⟨_, rfl, ?_⟩, kI, kI, trivial⟩ trivial rfl rfl trivial) ?_
   ·show AVle _ (.sli 1000001 2 l.length cap) _
    have hn : l.length = (rowsF (sortF l)).length := by rw [rowsF_len, hsl]
    rw [hn]
    exact .one (hC.le rfl)
   refine AK.ret ⟨_, rfl, ?_⟩
   rfl
end Go.Proofs.YtnpkejnaeemgjaaGreatDoor
