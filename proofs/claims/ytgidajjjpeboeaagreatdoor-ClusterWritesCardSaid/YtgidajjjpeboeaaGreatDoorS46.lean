/-
  The texts that the claim wants, one behind the other: part 46.
-/
import Derived.Test.YtgidajjjpeboeaaGreatDoorS45
set_option linter.unusedSimpArgs false
set_option linter.unusedVariables false
namespace Go.Proofs.YtgidajjjpeboeaaGreatDoor
open Go.RowKit Go.Maps Go.MapKept Go.ChangeMaps
theorem create_bad {c : Clu} {wr : Int} {i : OId} {v : V} (h : (c.create wr i v).1 ≠ 0) : (c.create wr i v).2.has = c.has := by
 unfold Clu.create at h ⊢
 split
 ·rfl
 ·split
  ·exact (write_has c).1
  ·split
   ·exact (write_has c).1
   ·rename_i h1 h2 h3
    rw [if_neg h1, if_neg h2, if_neg h3] at h
    exact absurd rfl h
theorem patch_bad {c : Clu} {wr : Int} {i : OId} {n : Int} {v : V} (h : (c.patch wr i n v).1 ≠ 0) : (c.patch wr i n v).2.has = c.has := by
 unfold Clu.patch at h ⊢
 split
 ·rfl
 ·rename_i h1
  rw [if_neg h1] at h
  split
  ·exact (write_has c).1
  ·rename_i h2
   rw [if_neg h2] at h
   cases hf : c.find i with
   | none => exact (write_has c).1
   | some e =>
    rw [hf] at h
    simp only at h ⊢
    split
    ·exact (write_has c).1
    ·rename_i h3
     rw [if_neg h3] at h
     exact absurd rfl h
theorem delete_bad {c : Clu} {i : OId} (h : (c.delete i).1 ≠ 0) : (c.delete i).2.has = c.has := by
 unfold Clu.delete at h ⊢
 split
 ·exact (write_has c).1
 ·rename_i h2
  rw [if_neg h2] at h
  cases hf : c.find i with
  | none => exact (write_has c).1
  | some e =>
   rw [hf] at h
   exact absurd rfl h
def others (i : OId) (l : List CEnt) : List CEnt := l.filter fun e => decide (e.id ≠ i)
theorem putE_others (i : OId) (l : List CEnt) (e : CEnt) (he : e.id = i) : others i (putE l e) = others i l := by
 unfold putE others
 split
 ·induction l with
  | nil => rfl
  | cons x l ih =>
   rename_i hx
   clear hx
   have ih2 : List.filter (fun e => decide (e.id ≠ i)) (l.map fun x => if x.id = e.id then e else x) = List.filter (fun e => decide (e.id ≠ i)) l := by
    clear ih
    induction l with
    | nil => rfl
    | cons y l ih =>
     rw [List.map_cons, List.filter_cons, List.filter_cons, ih]
     by_cases hy : y.id = e.id
     ·rw [if_pos hy, hy, he]
      simp
     ·rw [if_neg hy]
   rw [List.map_cons, List.filter_cons, List.filter_cons, ih2]
   by_cases hx : x.id = e.id
   ·rw [if_pos hx, hx, he]
    simp
   ·rw [if_neg hx]
 ·rw [List.filter_append]
  simp [he]
theorem put_others (c : Clu) (i : OId) (v : V) : others i (c.put i v).has = others i c.has := putE_others i c.has _ rfl
theorem create_others {c : Clu} {wr : Int} {i : OId} {v : V} : others i (c.create wr i v).2.has = others i c.has := by
 unfold Clu.create
 split
 ·rfl
 ·split
  ·rw [(write_has c).1]
  ·split
   ·rw [(write_has c).1]
   ·show others i (c.write.2.put i v).has = _
    rw [put_others, (write_has c).1]
theorem patch_others {c : Clu} {wr : Int} {i : OId} {n : Int} {v : V} : others i (c.patch wr i n v).2.has = others i c.has := by
 unfold Clu.patch
 split
 ·rfl
 ·split
  ·rw [(write_has c).1]
  ·split
   ·rw [(write_has c).1]
   ·split
    ·rw [(write_has c).1]
    ·show others i (c.write.2.put i v).has = _
     rw [put_others, (write_has c).1]
theorem delete_others {c : Clu} {i : OId} : others i (c.delete i).2.has = others i c.has := by
 unfold Clu.delete
 split
 ·rw [(write_has c).1]
 ·split
  ·rw [(write_has c).1]
  ·unfold others
   rw [List.filter_filter]
   congr 1
   funext e
   simp
def othersO (i : OId) (l : List Ob) : List Ob := l.filter fun o => !eqCells [.str o.k, .str o.s, .str o.n] [.str i.k, .str i.s, .str i.n]
theorem eqCells_id (a b c d e f : ByteArray) : eqCells [.str a, .str b, .str c] [.str d, .str e, .str f] = decide (a = d ∧ b = e ∧ c = f) := by
 simp only [eqCells, Bool.and_true]
 by_cases h1 : a = d <;> by_cases h2 : b = e <;> by_cases h3 : c = f <;> simp [h1, h2, h3]
theorem othersO_ob (i : OId) (l : List CEnt) : othersO i (l.map obE) = (others i l).map obE := by
 unfold othersO others
 rw [List.filter_map]
 congr 1
 refine List.filter_congr fun e _ => ?_
 show (!eqCells [.str e.id.k, .str e.id.s, .str e.id.n] [.str i.k, .str i.s, .str i.n]) = _
 rw [eqCells_id]
 obtain ⟨a, b, c⟩ := e.id
 obtain ⟨d, e, f⟩ := i
 simp
theorem sortO_filter {l : List Ob} (hnd : (l.map obId).Nodup) (p : Ob → Bool) : (sortO l).filter p = sortO (l.filter p) := by
 have hnd' : ((l.filter p).map obId).Nodup := hnd.sublist ((List.filter_sublist (p := p) (l := l)).map obId)
 exact sorted_one cmpI_ok obId (((sortO_perm l).filter p).trans (sortO_perm _).symm) ((sortO_sorted hnd).filter p) (sortO_sorted hnd')
theorem objects_others {c c' : Clu} (hc : CluOk c) (hc' : CluOk c') (i : OId) (h : others i c'.has = others i c.has) : othersO i c'.objects = othersO i c.objects := by
 unfold Clu.objects
 show List.filter _ (sortO _) = List.filter _ (sortO _)
 rw [sortO_filter (obE_nd hc.nd), sortO_filter (obE_nd hc'.nd)]
 congr 1
 show othersO i _ = othersO i _
 rw [othersO_ob, othersO_ob, h]
theorem othersO_len (i : OId) (l : List Ob) : (othersO i l).length ≤ l.length := List.length_filter_le _ _
theorem othersO_mem {i : OId} {l : List Ob} {o : Ob} (h : o ∈ othersO i l) : o ∈ l := (List.mem_filter.1 h).1
theorem othersO_take {i : OId} {l : List Ob} {k : Nat} {o : Ob} (h : l[k]? = some o) : othersO i (l.take (k + 1)) = othersO i (l.take k) ++ if eqCells [.str o.k, .str o.s, .str o.n] [.str i.k, .str i.s, .str i.n] = true then [] else [o] := by
 have e : l.take (k + 1) = l.take k ++ [o] := by rw [List.take_add_one, h]; rfl
 unfold othersO
 rw [e, List.filter_append, List.filter_cons]
 congr 1
 cases eqCells [.str o.k, .str o.s, .str o.n] [.str i.k, .str i.s, .str i.n] <;> simp
theorem objects_all {cl : Clu} (h : CluOk cl) : cl.objects.length ≤ 1000000 ∧ ∀ o ∈ cl.objects, o.v.size ≤ 1000000 := by
 unfold Clu.objects
 refine ⟨by rw [(sortO_perm _).length_eq, List.length_map]; exact h.len, fun o ho => ?_⟩
 obtain ⟨e, he, rfl⟩ := List.mem_map.1 ((sortO_perm _).mem_iff.1 ho)
 exact h.size e he
def rhoA (i : Nat) : Nat := swN 2000000 1000100 (swN 2900001 1900101 (swN 2000001 1000101 (swN 1000001 1000102 (swN 2000002 1000103 i))))
def rhoB (i : Nat) : Nat := swN 2000000 1000100 (swN 2900001 1900101 (swN 2000001 1000102 (swN 1000001 1000101 (swN 2000002 1000103 i))))
theorem rhoA_inj (i j : Nat) (h : rhoA i = rhoA j) : i = j := swN_inj (swN_inj (swN_inj (swN_inj (swN_inj h))))
theorem rhoB_inj (i j : Nat) (h : rhoB i = rhoB j) : i = j := swN_inj (swN_inj (swN_inj (swN_inj (swN_inj h))))
theorem rhoA_mp (i : Nat) : isMp (rhoA i) = isMp i := by
 unfold rhoA
 rw [swN_mp (by rfl), swN_mp (by rfl), swN_mp (by rfl), swN_mp (by rfl), swN_mp (by rfl)]
theorem rhoB_mp (i : Nat) : isMp (rhoB i) = isMp i := by
 unfold rhoB
 rw [swN_mp (by rfl), swN_mp (by rfl), swN_mp (by rfl), swN_mp (by rfl), swN_mp (by rfl)]
theorem ren_O (ρ : Nat → Nat) (c m q : Nat) (cl : Clu) (i : Nat × Nat) : renS ρ (cluO c m q cl i) = cluO (ρ c) (ρ m) (ρ q) cl i := by
 show [_, _, (ρ q, (fC cl.fails i.2).map (AV.ren ρ))] = _
 rw [ren_rowsJ]
 rfl
theorem ren_Y (ρ : Nat → Nat) (c m q q' : Nat) (cl : Clu) : ∀ f : FI, renS ρ (cluY c m q q' cl f) = cluY (ρ c) (ρ m) (ρ q) (ρ q') cl f
 | none => rfl
 | some (false, i) => ren_O ρ c m q cl i
 | some (true, i) => ren_O ρ c m q' cl i
theorem ren_app (ρ : Nat → Nat) (a b : List (Nat × List AV)) : renS ρ (a ++ b) = renS ρ a ++ renS ρ b := List.map_append
abbrev YA (cl : Clu) : FI → List (Nat × List AV) := cluY 1000100 1900101 1000101 1000102 cl
abbrev YC (cl : Clu) : FI → List (Nat × List AV) := cluY 1000100 1900101 1000102 1000101 cl
abbrev toldO (q : Nat) (cl : Clu) (i : Nat × Nat) : List (Nat × List AV) := cluF 1000100 1900101 cl (.sli q 1 cl.fails.length i.1) ++ [(q, (fC cl.fails i.2).map AV.told)]
theorem toldO_eq (q : Nat) (cl : Clu) (i : Nat × Nat) : toldO q cl i = cluO 1000100 1900101 q cl i := by
 unfold toldO
 rw [told_rowsJ]
theorem newR_m : MS Tryz.prog 10 [] [] [(1000103, qS 0 0 0 0)] (.np 1000103 0) := rNew_m.ren (swN 2 1000103) (fun _ _ => swN_inj) (swN_mp (by rfl))
section
variable (k : Nat) (hk : k ≤ 1000) (cl : Clu) (hJ : CluJ k cl) (kd : Int) (i : OId) (hi : OkI i) (v : V) (hv : v.size ≤ 1000000) (hsb : v.sb) (n : Int) (hn : -9223372036854775808 ≤ n ∧ n ≤ 9223372036854775807)
include hk hJ hi hv hsb hn
theorem doN (h0 : cl.fails = []) : MSX Tryz.prog 9 (cluN 1000100 1900101 cl ++ [(1000103, qS 0 0 0 0)]) [.np 1000100 0, .np 1000103 0, .agg (opC kd i v n)] (doI (k + 1)) (fun x => YA x.1 x.2.1) (fun x => .bool x.2.2) :=
 ((do_n k hk cl hJ h0 kd i hi v hv hsb n hn).ren rhoA rhoA_inj rhoA_mp).imp (fun x => x) (fun _ h => h) (fun x => (ren_Y rhoA 2000000 2900001 2000001 1000001 x.1 x.2.1).symm) fun _ => rfl
theorem doA (ix : Nat × Nat) (hix : cluFI cl.fails ix) : MSX Tryz.prog 9 (toldO 1000101 cl ix ++ [(1000103, qS 0 0 0 0)]) [.np 1000100 0, .np 1000103 0, .agg (opC kd i v n)] (doI (k + 1)) (fun x => YA x.1 x.2.1) (fun x => .bool x.2.2) := by
 have h := (do_o k hk cl hJ ix.1 ix.2 hix kd i hi v hv hsb n hn).ren rhoA rhoA_inj rhoA_mp
 rw [ren_app, ren_O] at h
 rw [toldO_eq]
 exact h.imp (fun x => x) (fun _ h => h) (fun x => (ren_Y rhoA 2000000 2900001 2000001 1000001 x.1 x.2.1).symm) fun _ => rfl
theorem doB (ix : Nat × Nat) (hix : cluFI cl.fails ix) : MSX Tryz.prog 9 (toldO 1000102 cl ix ++ [(1000103, qS 0 0 0 0)]) [.np 1000100 0, .np 1000103 0, .agg (opC kd i v n)] (doI (k + 1)) (fun x => YC x.1 x.2.1) (fun x => .bool x.2.2) := by
 have h := (do_o k hk cl hJ ix.1 ix.2 hix kd i hi v hv hsb n hn).ren rhoB rhoB_inj rhoB_mp
 rw [ren_app, ren_O] at h
 rw [toldO_eq]
 exact h.imp (fun x => x) (fun _ h => h) (fun x => (ren_Y rhoB 2000000 2900001 2000001 1000001 x.1 x.2.1).symm) fun _ => rfl
end
theorem objN (cl : Clu) (hok : CluOk cl) : MS Tryz.prog 11 (cluN 1000100 1900101 cl) [.np 1000100 0] (cluN 1000100 1900101 cl) (.lst .any 9 (rowsO cl.objects)) := (MS.hideNil fun u hu => objects_r u hu cl hok).ren rhoA rhoA_inj rhoA_mp
theorem obj_o (cl : Clu) (hok : CluOk cl) (ix : Nat × Nat) : MS Tryz.prog 11 (cluO 2000000 2900001 2000001 cl ix) [.np 2000000 0] (cluO 2000000 2900001 2000001 cl ix) (.lst .any 9 (rowsO cl.objects)) :=
 MS.hide (q := 2000001) (n := cl.fails.length) (cap := ix.1) (cells := fC cl.fails ix.2) (by decide) (by decide) rfl (fC_no _ _) fun u hu => objects_r u hu cl hok
theorem objA (cl : Clu) (hok : CluOk cl) (ix : Nat × Nat) : MS Tryz.prog 11 (toldO 1000101 cl ix) [.np 1000100 0] (cluO 1000100 1900101 1000101 cl ix) (.lst .any 9 (rowsO cl.objects)) := by
 have h := (obj_o cl hok ix).ren rhoA rhoA_inj rhoA_mp
 rw [ren_O] at h
 rw [toldO_eq]
 exact h
theorem objB (cl : Clu) (hok : CluOk cl) (ix : Nat × Nat) : MS Tryz.prog 11 (toldO 1000102 cl ix) [.np 1000100 0] (cluO 1000100 1900101 1000102 cl ix) (.lst .any 9 (rowsO cl.objects)) := by
 have h := (obj_o cl hok ix).ren rhoB rhoB_inj rhoB_mp
 rw [ren_O] at h
 rw [toldO_eq]
 exact h
section
variable (cl : Clu) (hk : CluI cl) {i : OId} (hi : OkI i) (v : V) (hv : v.size ≤ 1000000) (hsb : v.sb) (n : Int)
include hk hi hv hsb
theorem createN (h0 : cl.fails = []) : MS Tryz.prog 12 (cluN 1000100 1900101 cl) [.np 1000100 0, .agg (idA i), (vA (v))] (cluN 1000100 1900101 (cl.create (wrongC i v) i v).2) (.int .i64 (cl.create (wrongC i v) i v).1) :=
 (create_n cl hk h0 (keyI_of hi.1 hi.2.1 hi.2.2) v hv _ (wrong_v i v hi hsb (by omega))).ren rhoA rhoA_inj rhoA_mp
theorem patchN (h0 : cl.fails = []) : MS Tryz.prog 13 (cluN 1000100 1900101 cl) [.np 1000100 0, .agg (idA i), .int .i64 n, (vA (v))] (cluN 1000100 1900101 (cl.patch (wrongC i v) i n v).2) (.int .i64 (cl.patch (wrongC i v) i n v).1) :=
 (patch_n cl hk h0 (keyI_of hi.1 hi.2.1 hi.2.2) n v hv _ (wrong_v i v hi hsb (by omega))).ren rhoA rhoA_inj rhoA_mp
theorem createA (ix : Nat × Nat) (hix : cluFI cl.fails ix) : MSX Tryz.prog 12 (toldO 1000101 cl ix) [.np 1000100 0, .agg (idA i), (vA (v))] (fiOk (cl.create (wrongC i v) i v).2) (YA (cl.create (wrongC i v) i v).2) (fun _ => .int .i64 (cl.create (wrongC i v) i v).1) := by
 have h := (create_o cl hk ix hix (keyI_of hi.1 hi.2.1 hi.2.2) v hv _ (wrong_v i v hi hsb (by omega))).ren rhoA rhoA_inj rhoA_mp
 rw [ren_O] at h
 rw [toldO_eq]
 exact h.imp (fun x => x) (fun _ h => h) (fun x => (ren_Y rhoA 2000000 2900001 2000001 1000001 _ x).symm) fun _ => rfl
theorem createB (ix : Nat × Nat) (hix : cluFI cl.fails ix) : MSX Tryz.prog 12 (toldO 1000102 cl ix) [.np 1000100 0, .agg (idA i), (vA (v))] (fiOk (cl.create (wrongC i v) i v).2) (YC (cl.create (wrongC i v) i v).2) (fun _ => .int .i64 (cl.create (wrongC i v) i v).1) := by
 have h := (create_o cl hk ix hix (keyI_of hi.1 hi.2.1 hi.2.2) v hv _ (wrong_v i v hi hsb (by omega))).ren rhoB rhoB_inj rhoB_mp
 rw [ren_O] at h
 rw [toldO_eq]
 exact h.imp (fun x => x) (fun _ h => h) (fun x => (ren_Y rhoB 2000000 2900001 2000001 1000001 _ x).symm) fun _ => rfl
theorem patchA (ix : Nat × Nat) (hix : cluFI cl.fails ix) : MSX Tryz.prog 13 (toldO 1000101 cl ix) [.np 1000100 0, .agg (idA i), .int .i64 n, (vA (v))] (fiOk (cl.patch (wrongC i v) i n v).2) (YA (cl.patch (wrongC i v) i n v).2) (fun _ => .int .i64 (cl.patch (wrongC i v) i n v).1) := by
 have h := (patch_o cl hk ix hix (keyI_of hi.1 hi.2.1 hi.2.2) n v hv _ (wrong_v i v hi hsb (by omega))).ren rhoA rhoA_inj rhoA_mp
 rw [ren_O] at h
 rw [toldO_eq]
 exact h.imp (fun x => x) (fun _ h => h) (fun x => (ren_Y rhoA 2000000 2900001 2000001 1000001 _ x).symm) fun _ => rfl
theorem patchB (ix : Nat × Nat) (hix : cluFI cl.fails ix) : MSX Tryz.prog 13 (toldO 1000102 cl ix) [.np 1000100 0, .agg (idA i), .int .i64 n, (vA (v))] (fiOk (cl.patch (wrongC i v) i n v).2) (YC (cl.patch (wrongC i v) i n v).2) (fun _ => .int .i64 (cl.patch (wrongC i v) i n v).1) := by
 have h := (patch_o cl hk ix hix (keyI_of hi.1 hi.2.1 hi.2.2) n v hv _ (wrong_v i v hi hsb (by omega))).ren rhoB rhoB_inj rhoB_mp
 rw [ren_O] at h
 rw [toldO_eq]
 exact h.imp (fun x => x) (fun _ h => h) (fun x => (ren_Y rhoB 2000000 2900001 2000001 1000001 _ x).symm) fun _ => rfl
end
section
variable (cl : Clu) (hk : CluI cl) {i : OId} (hi : OkI i)
include hk hi
theorem deleteN (h0 : cl.fails = []) : MS Tryz.prog 14 (cluN 1000100 1900101 cl) [.np 1000100 0, .agg (idA i)] (cluN 1000100 1900101 (cl.delete i).2) (.int .i64 (cl.delete i).1) :=
 (delete_n cl hk h0 (keyI_of hi.1 hi.2.1 hi.2.2)).ren rhoA rhoA_inj rhoA_mp
theorem deleteA (ix : Nat × Nat) (hix : cluFI cl.fails ix) : MSX Tryz.prog 14 (toldO 1000101 cl ix) [.np 1000100 0, .agg (idA i)] (fiOk (cl.delete i).2) (YA (cl.delete i).2) (fun _ => .int .i64 (cl.delete i).1) := by
 have h := (delete_o cl hk ix hix (keyI_of hi.1 hi.2.1 hi.2.2)).ren rhoA rhoA_inj rhoA_mp
 rw [ren_O] at h
 rw [toldO_eq]
 exact h.imp (fun x => x) (fun _ h => h) (fun x => (ren_Y rhoA 2000000 2900001 2000001 1000001 _ x).symm) fun _ => rfl
theorem deleteB (ix : Nat × Nat) (hix : cluFI cl.fails ix) : MSX Tryz.prog 14 (toldO 1000102 cl ix) [.np 1000100 0, .agg (idA i)] (fiOk (cl.delete i).2) (YC (cl.delete i).2) (fun _ => .int .i64 (cl.delete i).1) := by
 have h := (delete_o cl hk ix hix (keyI_of hi.1 hi.2.1 hi.2.2)).ren rhoB rhoB_inj rhoB_mp
 rw [ren_O] at h
 rw [toldO_eq]
 exact h.imp (fun x => x) (fun _ h => h) (fun x => (ren_Y rhoB 2000000 2900001 2000001 1000001 _ x).symm) fun _ => rfl
end
theorem new_m : MS Tryz.prog 8 [] [npC] [(6, cluC 1900101 0 (-1) false), (1900101, [mcA []])] (.np 6 0) := by
 have hn : MOp Tryz.prog (.new 68) [] [] [(1900101, [mcA []])] (.np 1900101 0) := mop_new rfl
 refine MS.enter Tryz.func8 a_cluster_New_ok a_cluster_New_cb (by rfl) (by rfl) fun E hE => ?_
 show AK _ _ _ [.c b_cluster_New] _ _
 rw [b_cluster_New]
 refine kW ?_
 refine kQ [.s [] [(1900101, [mcA []])] (.np 1900101 0)] ?_
 refine AK.weak (Weak.introN (L := [(2, .ptr 6 0)]) (BL := [(6, cluC 1900101 0 (-1) false, false), (1900101, [mcA []], false)]) ⟨kI, trivial⟩ ⟨⟨_, rfl, .refl _, .refl _, .any .nil 1 [], .refl _, .refl _, .refl _, trivial⟩, kJ, trivial⟩ rfl rfl ⟨rfl, trivial⟩) ?_
 exact AK.ret ⟨⟨_, rfl, rfl⟩, ⟨_, rfl, rfl⟩, ⟨_, rfl, rfl⟩, trivial⟩
def rhoC (i : Nat) : Nat := if i = 2000000 then 1000100 else if i = 1000100 then 2000000 else if i = 2900001 then 1900101 else if i = 1900101 then 2900001 else i
theorem rhoC_inj (i j : Nat) (h : rhoC i = rhoC j) : i = j := by
 unfold rhoC at h
 repeat' split at h
 all_goals omega
theorem rhoC_mp (i : Nat) : isMp (rhoC i) = isMp i := by
 unfold rhoC
 repeat' split
 all_goals first | (subst_vars; rfl) | rfl
def rhoN (i : Nat) : Nat := if i = 6 then 1000100 else if i = 1000100 then 6 else i
theorem rhoN_inj (i j : Nat) (h : rhoN i = rhoN j) : i = j := by
 unfold rhoN at h
 repeat' split at h
 all_goals omega
theorem rhoN_mp (i : Nat) : isMp (rhoN i) = isMp i := by
 unfold rhoN
 repeat' split
 all_goals first | (subst_vars; rfl) | rfl
theorem new_a : MS Tryz.prog 8 [] [npC] (cluS 1000100 1900101 [] 0 (-1) false) (.np 1000100 0) := new_m.ren rhoN rhoN_inj rhoN_mp
abbrev zA : List AV := [.int .i64 0, .bool false, .int .i64 0, .str ⟨#[]⟩, .lst .nil 6 [], .lst .nil 7 []]
set_option maxHeartbeats 20000000 in
theorem create_m {rows : List MRow} {a b c : ByteArray} (hk : KeysOk Tryz.prog 24 rows) (h : KeyI a b c) (hi : idOk a b c) (ho : Found rows (idK a b c) none) (last fuse : Int) (hl : -1000 ≤ last ∧ last ≤ 1000) (hf : -1000 ≤ fuse ∧ fuse ≤ 1000) (h0 : fuse ≠ 0) :
  MS Tryz.prog 12 (cluS 2000000 2900001 rows last fuse false) [.np 2000000 0, .agg (idK a b c), (vA (emV))] (cluS 2000000 2900001 (putR rows (idK a b c) (enA (last + 1))) (last + 1) (wrF fuse false) false) (.int .i64 0) := by
 have hw := wrong_a hi
 have hwr := write_m rows last fuse false hf
 obtain ⟨e1, e2, e3⟩ := wr_live h0
 rw [e1, e3] at hwr
 have hg := (get_m hk h).1 ho
 have ha := add_a 1
 have hp := put_m hk h last (wrF fuse false) false hl
 refine MS.enter Tryz.func12 a_cluster_Cluster_Create_ok a_cluster_Cluster_Create_cb (by rfl) (by rfl) fun E hE => ?_
 show AK _ _ _ [.c b_cluster_Cluster_Create] _ _
 rw [b_cluster_Cluster_Create]
 refine kW ?_
 refine kQ [.v (.int .i64 0)] ?_
 refine kW ?_
 refine kCf ?_
 refine kW ?_
 refine kQ [.s [2000000, 2900001] (cluS 2000000 2900001 rows last (wrF fuse false) false) (.int .i64 0)] ?_
 refine kW ?_
 refine kCf ?_
 refine kW ?_
 refine AK.weak (Weak.introN (L := [(0, .np 2000000 0), (4, .ptr 4 0), (5, .ptr 5 0)]) (BL := [(4, idK a b c, false), (5, cM, false), (2000000, cluC 2900001 last (wrF fuse false) false, false), (2900001, [mcA rows], false)]) ⟨kI, kI, kI, trivial⟩ ⟨kJ, kJ, kJ, kJ, trivial⟩ rfl rfl ⟨rfl, rfl, trivial⟩) ?_
 refine AK.rega fw0 [.s [2900001] [(2900001, [mcA rows])] (.tup [.agg zE, .bool false])] (frOf [(0, .np 2000000 0), (4, .ptr 4 0), (5, .ptr 5 0), (10, .bool false)]) ⟨boxOf [(4, idK a b c, false), (5, cM, false), (2000000, cluC 2900001 last (wrF fuse false) false, false), (2900001, [mcA rows], false)], fun _ => 0⟩ ?_ ?_
 ·(repeat' (first | exact trivial | apply And.intro))
  all_goals first | (show _ = _; exact rfl) | (show MOp _ _ _ _ _ _; exact hg) | exact Weak.introN ⟨kI, kI, kI, kI, trivial⟩ ⟨kJ, kJ, kJ, kJ, trivial⟩ rfl rfl ⟨rfl, rfl, trivial⟩
 refine kW ?_
 refine kCf ?_
 refine kW ?_
 refine kQ [.v (.int .i64 0)] ?_
 refine kW ?_
 refine kQ [.s [2000000, 2900001] (cluS 2000000 2900001 (putR rows (idK a b c) (enA (last + 1))) (last + 1) (wrF fuse false) false) (.tup [])] ?_
 refine kW ?_
 exact AK.ret ⟨⟨_, rfl, rfl⟩, ⟨_, rfl, rfl⟩, ⟨_, rfl, rfl⟩, trivial⟩
set_option maxHeartbeats 20000000 in
theorem getOk_m {rows : List MRow} {a b c : ByteArray} (hk : KeysOk Tryz.prog 24 rows) (h : KeyI a b c) (n : Int) (ho : Found rows (idK a b c) (some (enA n))) (last fuse : Int) :
  MS Tryz.prog 28 (cluS 2000000 2900001 rows last fuse false) [.np 2000000 0, .agg (idK a b c)] (cluS 2000000 2900001 rows last fuse false) (.tup [(vA (emV)), .int .i64 n, .int .i64 0]) := by
 have hg := (get_m hk h).2 n ho
 have ha := add_a 0
 have hc : AC Tryz.prog 38 [(vA (emV))] ((vA (emV))) := clone_ok emV (by decide +kernel)
 refine MS.enter Tryz.func28 a_cluster_Cluster_Get_ok a_cluster_Cluster_Get_cb (by rfl) (by rfl) fun E hE => ?_
 show AK _ _ _ [.c b_cluster_Cluster_Get] _ _
 rw [b_cluster_Cluster_Get]
 refine kW ?_
 refine kP [] ?_ ?_
 ·((repeat' apply And.intro) <;> first | exact kD | (intro hgd; refine ⟨?_, kG⟩; (repeat' apply And.intro) <;> first | exact kD | skip) | skip)
  ·exact fun g o => someClu false g o
 refine kCf ?_
 refine kW ?_
 refine kCf ?_
 refine kW ?_
 refine kQ [.v (.int .i64 0)] ?_
 refine kW ?_
 refine AK.weak (Weak.introN (L := [(0, .np 2000000 0), (3, .ptr 3 0), (4, .ptr 4 0)]) (BL := [(3, idK a b c, false), (4, zA, false), (2000000, cluC 2900001 last fuse false, false), (2900001, [mcA rows], false)]) ⟨kI, kI, kI, trivial⟩ ⟨kJ, kJ, kJ, kJ, trivial⟩ rfl rfl ⟨rfl, rfl, trivial⟩) ?_
 refine AK.rega fw0 [.s [2900001] [(2900001, [mcA rows])] (.tup [.agg (enA n), .bool true])] (frOf [(0, .np 2000000 0), (4, .ptr 4 0), (7, .ptr 7 0), (8, .bool true)]) ⟨boxOf [(4, zA, false), (7, enA n, false), (2000000, cluC 2900001 last fuse false, false), (2900001, [mcA rows], false)], fun _ => 0⟩ ?_ ?_
 ·(repeat' (first | exact trivial | apply And.intro))
  all_goals first | (show _ = _; exact rfl) | (show MOp _ _ _ _ _ _; exact hg) | exact Weak.introN ⟨kI, kI, kI, kI, trivial⟩ ⟨kJ, kJ, kJ, kJ, trivial⟩ rfl rfl ⟨rfl, rfl, trivial⟩
 refine kW ?_
 refine kCf ?_
 refine kW ?_
 refine AK.rega fw0 [.v ((vA (emV)))] (frOf [(4, .ptr 4 0), (5, .int .i64 n), (6, .int .i64 0)]) ⟨boxOf [(4, cM, false), (2000000, cluC 2900001 last fuse false, false), (2900001, [mcA rows], false)], fun _ => 0⟩ ?_ ?_
 ·(repeat' (first | exact trivial | apply And.intro))
  all_goals first | (show _ = _; exact rfl) | (show AC _ _ _ _; exact hc) | exact Weak.introN ⟨kI, kI, kI, trivial⟩ ⟨kJ, kJ, kJ, trivial⟩ rfl rfl ⟨rfl, rfl, trivial⟩
 refine kW ?_
 exact AK.ret ⟨⟨_, rfl, rfl⟩, ⟨_, rfl, rfl⟩, ⟨_, rfl, rfl⟩, trivial⟩
set_option maxHeartbeats 20000000 in
theorem patch_m {rows : List MRow} {a b c : ByteArray} (hk : KeysOk Tryz.prog 24 rows) (h : KeyI a b c) (hi : idOk a b c) (n v : Int) (ho : Found rows (idK a b c) (some (enA n))) (last fuse : Int) (hl : -1000 ≤ last ∧ last ≤ 1000) (hf : -1000 ≤ fuse ∧ fuse ≤ 1000) (h0 : fuse ≠ 0) :
  MS Tryz.prog 13 (cluS 2000000 2900001 rows last fuse false) [.np 2000000 0, .agg (idK a b c), .int .i64 v, (vA (emV))] (if n = v then cluS 2000000 2900001 (putR rows (idK a b c) (enA (last + 1))) (last + 1) (wrF fuse false) false else cluS 2000000 2900001 rows last (wrF fuse false) false) (.int .i64 (if n = v then 0 else 32)) := by
 have hw := wrong_a hi
 have hwr := write_m rows last fuse false hf
 obtain ⟨e1, e2, e3⟩ := wr_live h0
 rw [e1, e3] at hwr
 have hg := (get_m hk h).2 n ho
 have ha := add_a 2
 have hp := put_m hk h last (wrF fuse false) false hl
 refine MS.enter Tryz.func13 a_cluster_Cluster_Patch_ok a_cluster_Cluster_Patch_cb (by rfl) (by rfl) fun E hE => ?_
 show AK _ _ _ [.c b_cluster_Cluster_Patch] _ _
 rw [b_cluster_Cluster_Patch]
 refine kW ?_
 refine kQ [.v (.int .i64 0)] ?_
 refine kW ?_
 refine kCf ?_
 refine kW ?_
 refine kQ [.s [2000000, 2900001] (cluS 2000000 2900001 rows last (wrF fuse false) false) (.int .i64 0)] ?_
 refine kW ?_
 refine kCf ?_
 refine kW ?_
 refine AK.weak (Weak.introN (L := [(0, .np 2000000 0), (2, .int .i64 v), (5, .ptr 5 0), (7, .ptr 7 0)]) (BL := [(5, idK a b c, false), (7, cM, false), (2000000, cluC 2900001 last (wrF fuse false) false, false), (2900001, [mcA rows], false)]) ⟨kI, kI, kI, kI, trivial⟩ ⟨kJ, kJ, kJ, kJ, trivial⟩ rfl rfl ⟨rfl, rfl, trivial⟩) ?_
 refine AK.rega fw0 [.s [2900001] [(2900001, [mcA rows])] (.tup [.agg (enA n), .bool true])] (frOf [(0, .np 2000000 0), (2, .int .i64 v), (5, .ptr 5 0), (7, .ptr 7 0), (11, .ptr 11 0), (12, .bool true)]) ⟨boxOf [(5, idK a b c, false), (7, cM, false), (11, enA n, false), (2000000, cluC 2900001 last (wrF fuse false) false, false), (2900001, [mcA rows], false)], fun _ => 0⟩ ?_ ?_
 ·(repeat' (first | exact trivial | apply And.intro))
  all_goals first | (show _ = _; exact rfl) | (show MOp _ _ _ _ _ _; exact hg) | exact Weak.introN ⟨kI, kI, kI, kI, kI, kI, trivial⟩ ⟨kJ, kJ, kJ, kJ, kJ, trivial⟩ rfl rfl ⟨rfl, rfl, trivial⟩
 refine kW ?_
 refine kCf ?_
 refine kW ?_
 refine kC (fun hb => ?_) fun hb => ?_
 ·have hn : ¬ n = v := by simpa using hb
  rw [if_neg hn, if_neg hn]
  refine kW ?_
  exact AK.ret ⟨⟨_, rfl, rfl⟩, ⟨_, rfl, rfl⟩, ⟨_, rfl, rfl⟩, trivial⟩
 ·have hn : n = v := by simpa using hb
  rw [if_pos hn, if_pos hn]
  refine kW ?_
  refine kQ [.v (.int .i64 0)] ?_
  refine kW ?_
  refine kQ [.s [2000000, 2900001] (cluS 2000000 2900001 (putR rows (idK a b c) (enA (last + 1))) (last + 1) (wrF fuse false) false) (.tup [])] ?_
  refine kW ?_
  exact AK.ret ⟨⟨_, rfl, rfl⟩, ⟨_, rfl, rfl⟩, ⟨_, rfl, rfl⟩, trivial⟩
theorem putR_nil (κ vc : List AV) : putR [] κ vc = [(κ, vc)] := by
 unfold putR
 rw [if_neg (by simp)]
 rfl
theorem putR_one (κ vc wc : List AV) : putR [(κ, vc)] κ wc = [(κ, wc)] := by
 unfold putR
 rw [if_pos ⟨_, List.mem_singleton.2 rfl, rfl⟩]
 simp
theorem keysOk_nil : KeysOk Tryz.prog 24 [] := fun r h => by cases h
theorem keysOk_one {a b c : ByteArray} (h : KeyI a b c) (vc : List AV) : KeysOk Tryz.prog 24 [(idK a b c, vc)] := fun r hr => by
 rw [List.mem_singleton.1 hr]
 obtain ⟨l, hl⟩ := h
 exact ⟨_, l, keyV_id a b c, hl⟩
theorem keyA : KeyI ⟨#[65]⟩ ⟨#[98]⟩ ⟨#[99]⟩ := by
 have h : (keyOf Tryz.prog 24 (.agg #[.string ⟨#[65]⟩, .string ⟨#[98]⟩, .string ⟨#[99]⟩])).isSome = true := by kernel_rfl
 exact Option.isSome_iff_exists.1 h
theorem okA : idOk ⟨#[65]⟩ ⟨#[98]⟩ ⟨#[99]⟩ := by
 refine ⟨by decide +kernel, by decide, by decide, by decide⟩
abbrev kA0 : List AV := idK ⟨#[65]⟩ ⟨#[98]⟩ ⟨#[99]⟩
theorem awakeCl_a : AC Tryz.prog 7 [] (.bool true) := by
 have hM : AC Tryz.prog 27 [.lst .any 7 []] ((vA (emV))) := treeMap_a [] (by decide +kernel)
 have hN := new_a
 have hC : MS Tryz.prog 12 (cluS 1000100 1900101 [] 0 (-1) false) [.np 1000100 0, .agg kA0, (vA (emV))] (cluS 1000100 1900101 [(kA0, enA 1)] 1 (-1) false) (.int .i64 0) := by
  have h := create_m keysOk_nil keyA okA (rows := []) (fun r hr => by cases hr) 0 (-1) (by omega) (by omega) (by omega)
  rw [putR_nil] at h
  exact h.ren rhoC rhoC_inj rhoC_mp
 have hG : MS Tryz.prog 28 (cluS 1000100 1900101 [(kA0, enA 1)] 1 (-1) false) [.np 1000100 0, .agg kA0] (cluS 1000100 1900101 [(kA0, enA 1)] 1 (-1) false) (.tup [(vA (emV)), .int .i64 1, .int .i64 0]) := by
  exact (getOk_m (keysOk_one keyA _) keyA 1 (List.mem_singleton.2 rfl) 1 (-1)).ren rhoC rhoC_inj rhoC_mp
 have hP : MS Tryz.prog 13 (cluS 1000100 1900101 [(kA0, enA 1)] 1 (-1) false) [.np 1000100 0, .agg kA0, .int .i64 1, (vA (emV))] (cluS 1000100 1900101 [(kA0, enA 2)] 2 (-1) false) (.int .i64 0) := by
  have h := patch_m (keysOk_one keyA (enA 1)) keyA okA 1 1 (List.mem_singleton.2 rfl) 1 (-1) (by omega) (by omega) (by omega)
  rw [putR_one, if_pos rfl, if_pos rfl] at h
  exact h.ren rhoC rhoC_inj rhoC_mp
 have hQ : MS Tryz.prog 13 (cluS 1000100 1900101 [(kA0, enA 2)] 2 (-1) false) [.np 1000100 0, .agg kA0, .int .i64 1, (vA (emV))] (cluS 1000100 1900101 [(kA0, enA 2)] 2 (-1) false) (.int .i64 32) := by
  have h := patch_m (keysOk_one keyA (enA 2)) keyA okA 2 1 (List.mem_singleton.2 rfl) 2 (-1) (by omega) (by omega) (by omega)
  rw [if_neg (by omega), if_neg (by omega)] at h
  exact h.ren rhoC rhoC_inj rhoC_mp
 refine kE Tryz.func7 a_law16_awake_ok a_law16_awake_cb fun E hE => ?_
 refine kW ?_
 refine kQ [.s [] (cluS 1000100 1900101 [] 0 (-1) false) (.np 1000100 0)] ?_
 refine kW ?_
 refine kQ [.v ((vA (emV))), .s [1000100, 1900101] (cluS 1000100 1900101 [(kA0, enA 1)] 1 (-1) false) (.int .i64 0)] ?_
 refine kW ?_
 refine kQ [.s [1000100, 1900101] (cluS 1000100 1900101 [(kA0, enA 1)] 1 (-1) false) (.tup [(vA (emV)), .int .i64 1, .int .i64 0])] ?_
 refine AK.weak (Weak.introN (L := [(1, .np 1000100 0), (2, .ptr 2 0), (3, .int .i64 0), (5, .int .i64 1), (6, .int .i64 0)]) (BL := [(2, kA0, false), (1000100, cluC 1900101 1 (-1) false, false), (1900101, [mcA [(kA0, enA 1)]], false)]) ⟨kI, kI, kI, kI, kI, trivial⟩ ⟨kJ, kJ, kJ, trivial⟩ rfl rfl ⟨rfl, rfl, trivial⟩) ?_
 refine kW ?_
 refine kQ [.v ((vA (emV))), .s [1000100, 1900101] (cluS 1000100 1900101 [(kA0, enA 2)] 2 (-1) false) (.int .i64 0), .v ((vA (emV))), .s [1000100, 1900101] (cluS 1000100 1900101 [(kA0, enA 2)] 2 (-1) false) (.int .i64 32)] ?_
 refine kW ?_
 refine AK.ret ⟨_, rfl, ?_⟩
 rfl
end Go.Proofs.YtgidajjjpeboeaaGreatDoor
