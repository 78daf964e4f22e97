/-
  The texts that the claim wants, one behind the other: part 23.
-/
import Derived.Test.YtgidajjjpeboeaaGreatDoorS22
import Derived.Shelf.RegionOpenPlain
import Derived.WalkKit
import Derived.Lib.Walk
import Derived.Lib.SliceRun
import Derived.Lib.Overlaps
import Derived.Lib.AppendZerosOnto
import Derived.Laws.Externs
import Derived.Laws.IdiomCopy
import Derived.Laws.NewBlocks
set_option linter.unusedSimpArgs false
set_option linter.unusedVariables false
namespace Go.Proofs.YtgidajjjpeboeaaGreatDoor
open Go.RowKit
abbrev Rises (m : List (ByteArray × V)) : Prop := m.Pairwise (fun p q => klt p.1 q.1)
def minsert (key : ByteArray) (x : V) : List (ByteArray × V) → List (ByteArray × V)
 | [] => [(key, x)]
 | (k, y) :: m => if cmpS k key < 0 then (k, y) :: minsert key x m else if cmpS k key = 0 then (key, x) :: m else (key, x) :: (k, y) :: m
theorem klt_tri {a b : ByteArray} (h : ¬ cmpS a b < 0) (h2 : cmpS a b ≠ 0) : klt b a := by
 have h3 : ¬ klt a b := fun k => h (cmpS_lt.2 k)
 have h4 : a ≠ b := fun e => h2 (cmpS_eq.2 e)
 refine bytes_tri (by simpa [klt] using h3) (by
  rw [bytes_beq]
  simpa using h4)
theorem minsert_mem {key : ByteArray} {x : V} : ∀ {m : List (ByteArray × V)} {p : ByteArray × V}, p ∈ minsert key x m → p = (key, x) ∨ p ∈ m
 | [], p, h => by simpa [minsert] using h
 | (k, y) :: m, p, h => by
  rw [minsert] at h
  split at h
  ·rcases List.mem_cons.1 h with rfl | h
   ·simp
   ·rcases minsert_mem h with h | h
    ·exact .inl h
    ·exact .inr (by simp [h])
  ·split at h
   ·rcases List.mem_cons.1 h with rfl | h
    ·simp
    ·exact .inr (by simp [h])
   ·rcases List.mem_cons.1 h with rfl | h
    ·simp
    ·exact .inr h
theorem minsert_rises {key : ByteArray} {x : V} : ∀ {m : List (ByteArray × V)}, Rises m → Rises (minsert key x m)
 | [], _ => by simp [minsert, Rises]
 | (k, y) :: m, h => by
  have h1 := List.pairwise_cons.1 h
  rw [minsert]
  split
  ·rename_i hlt
   refine List.pairwise_cons.2 ⟨fun p hp => ?_, minsert_rises h1.2⟩
   rcases minsert_mem hp with rfl | hp
   ·exact cmpS_lt.1 hlt
   ·exact h1.1 p hp
  ·rename_i hlt
   split
   ·rename_i heq
    have := cmpS_eq.1 heq
    subst this
    exact List.pairwise_cons.2 ⟨fun p hp => h1.1 p hp, h1.2⟩
   ·rename_i hne
    have hk := klt_tri hlt hne
    refine List.pairwise_cons.2 ⟨fun p hp => ?_, h⟩
    rcases List.mem_cons.1 hp with rfl | hp
    ·exact hk
    ·exact klt_trans hk (h1.1 p hp)
theorem minsert_bound {key : ByteArray} {x : V} : ∀ (m : List (ByteArray × V)), sizeM (minsert key x m) ≤ sizeM m + x.size ∧ (minsert key x m).length ≤ m.length + 1
 | [] => by simp [minsert, sizeM]
 | (k, y) :: m => by
  have ih := minsert_bound (key := key) (x := x) m
  rw [minsert]
  split
  ·simp only [sizeM, List.length_cons]; omega
  ·split
   ·simp only [sizeM, List.length_cons]; omega
   ·simp only [sizeM, List.length_cons]; omega
theorem bpos_cons (key : ByteArray) (p : ByteArray × V) (m : List (ByteArray × V)) : bpos key (p :: m) = if cmpS p.1 key < 0 then bpos key m + 1 else 0 := by
 rw [bpos, List.takeWhile_cons]
 by_cases h : cmpS p.1 key < 0
 ·rw [if_pos (by simpa [bless] using h), if_pos h]; rfl
 ·rw [if_neg (by simpa [bless] using h), if_neg h]; rfl
theorem bfound_cons (key : ByteArray) (p : ByteArray × V) (m : List (ByteArray × V)) : bfound key (p :: m) = if cmpS p.1 key < 0 then bfound key m else decide (cmpS p.1 key = 0) := by
 rw [bfound, bpos_cons]
 by_cases h : cmpS p.1 key < 0
 ·rw [if_pos h, if_pos h]; rfl
 ·rw [if_neg h, if_neg h]; rfl
theorem minsert_found {key : ByteArray} {x : V} : ∀ {m : List (ByteArray × V)}, bfound key m = true → minsert key x m = m.set (bpos key m) (key, x) ∧ ∃ y, m[bpos key m]? = some (key, y)
 | [], h => by simp [bfound, bpos] at h
 | (k, y) :: m, h => by
  rw [bfound_cons] at h
  rw [minsert, bpos_cons]
  by_cases hlt : cmpS k key < 0
  ·rw [if_pos hlt] at h ⊢
   rw [if_pos hlt]
   obtain ⟨h1, h2⟩ := minsert_found (x := x) h
   exact ⟨by rw [h1]; rfl, h2⟩
  ·rw [if_neg hlt] at h ⊢
   rw [if_neg hlt]
   have h0 : cmpS k key = 0 := by simpa using h
   have := cmpS_eq.1 h0
   subst this
   rw [if_pos h0]
   exact ⟨rfl, y, rfl⟩
theorem minsert_new {key : ByteArray} {x : V} : ∀ {m : List (ByteArray × V)}, bfound key m = false → minsert key x m = m.take (bpos key m) ++ (key, x) :: m.drop (bpos key m)
 | [], _ => rfl
 | (k, y) :: m, h => by
  rw [bfound_cons] at h
  rw [minsert, bpos_cons]
  by_cases hlt : cmpS k key < 0
  ·rw [if_pos hlt] at h ⊢
   rw [if_pos hlt, minsert_new (x := x) h]
   rfl
  ·rw [if_neg hlt] at h ⊢
   rw [if_neg hlt, if_neg (by simpa using h)]
   rfl
def mapOf (l : List (ByteArray × V)) : List (ByteArray × V) := l.foldl (fun m p => minsert p.1 p.2 m) []
theorem mapOf_take {l : List (ByteArray × V)} {k : Nat} {p : ByteArray × V} (h : l[k]? = some p) : mapOf (l.take (k + 1)) = minsert p.1 p.2 (mapOf (l.take k)) := by
 rw [mapOf, take_snoc h, List.foldl_append]
 rfl
theorem mapOf_facts (l : List (ByteArray × V)) : Rises (mapOf l) ∧ sizeM (mapOf l) ≤ sizeM l ∧ (mapOf l).length ≤ l.length := by
 have key : ∀ (l m : List (ByteArray × V)), Rises m → Rises (l.foldl (fun m p => minsert p.1 p.2 m) m) ∧ sizeM (l.foldl (fun m p => minsert p.1 p.2 m) m) ≤ sizeM m + sizeM l ∧ (l.foldl (fun m p => minsert p.1 p.2 m) m).length ≤ m.length + l.length := by
  intro l
  induction l with
  | nil => intro m hm; simp [sizeM, hm]
  | cons p l ih =>
   intro m hm
   obtain ⟨k, x⟩ := p
   have hb := minsert_bound (key := k) (x := x) m
   obtain ⟨h1, h2, h3⟩ := ih (minsert k x m) (minsert_rises hm)
   simp only [List.foldl_cons, sizeM, List.length_cons]
   exact ⟨h1, by omega, by omega⟩
 obtain ⟨h1, h2, h3⟩ := key l [] List.Pairwise.nil
 exact ⟨h1, by simp only [sizeM, Nat.zero_add] at h2; exact h2, by simp only [List.length_nil, Nat.zero_add] at h3; exact h3⟩
theorem rowsM_set (m : List (ByteArray × V)) (i : Nat) (y : ByteArray) (x : V) : rowsM (m.set i (y, x)) = (rowsM m).set i (.str y :: cellsV x) := by
 induction m generalizing i with
 | nil => rfl
 | cons p m ih =>
  obtain ⟨k, z⟩ := p
  cases i with
  | zero => rfl
  | succ i => simp [rowsM, ih]
theorem rowsM_append (a b : List (ByteArray × V)) : rowsM (a ++ b) = rowsM a ++ rowsM b := by
 induction a with
 | nil => rfl
 | cons p a ih => obtain ⟨k, z⟩ := p; simp [rowsM, ih]
theorem rowsM_take (m : List (ByteArray × V)) (i : Nat) : rowsM (m.take i) = (rowsM m).take i := by
 induction m generalizing i with
 | nil => cases i <;> rfl
 | cons p m ih => obtain ⟨k, z⟩ := p; cases i <;> simp [rowsM, ih]
theorem rowsM_drop (m : List (ByteArray × V)) (i : Nat) : rowsM (m.drop i) = (rowsM m).drop i := by
 induction m generalizing i with
 | nil => cases i <;> rfl
 | cons p m ih => obtain ⟨k, z⟩ := p; cases i <;> simp [rowsM, ih]
end Go.Proofs.YtgidajjjpeboeaaGreatDoor
/-
 slices.Insert at pairs, of one pair: it takes the row over.
-/
namespace Go.Proofs.YtgidajjjpeboeaaGreatDoor
open Go.RowKit
section
variable {P : Program}
theorem run_copy_row (w : World) (t t2 ty e : TypeId) (inf : TypeInfo) (ht : P.underlying t = some (.slice e)) (hi : P.info? e = some inf) (g o dLen dCap : Nat) (e' : TypeId) (cur : Array Value) (hg : w.heap[g]? = some (.cells cur e' (0, 0))) (a : Addr) (sLen sCap n : Nat) (hn : n = Nat.min sLen dLen) (cs : List Value) (hl : cs.length = n * inf.size)
  (hsrc : ∀ (j : Nat) u, cs[j]? = some u → w.cell? (a.add j) = some u) (h1 : ∀ u ∈ cs, u.oneCell' = true) (hfit : o + cs.length ≤ cur.size) :
  (Builtin.copy_ #[t, t2] ty #[.slice (some ⟨g, o, none⟩) dLen dCap, .slice (some a) sLen sCap]).run P w = .ok (goInt n) (w.setRow g (cur.toList.take o ++ cs ++ cur.toList.drop (o + cs.length)).toArray) := by
 have hf := run_firstCells_some (P := P) w inf.size n a sLen sCap cs hl hsrc
 have hst := run_storeCells_at P g o e' cs 0 cur w hg (by simpa using hfit) h1
 simp only [Nat.add_zero] at hst
 subst hn
 simp [Builtin.copy_, run_underlying ht, sizeOf, typeInfo, hi, Builtin.lenOf, hf, hst]
end
theorem run_overlaps_row {P : Program} (w : World) (tS tR e : TypeId) (ht : P.underlying tS = some (.slice e)) (size : Nat) (hz : ∀ w, (Go.sizeOf e).run P w = .ok size w) (a b : Addr) (la ca lb cb : Nat) (hne : a.block ≠ b.block) (tA tB : TypeId) (kA kB : Nat)
  (hsa : w.shape? a.block = some (tA, kA + 1)) (hsb : w.shape? b.block = some (tB, kB + 1)) (hfb : w.frozen? b = false) (hfe : w.frozen? { block := b.block, off := kB + 1 } = false) :
  (Extern.SlicesOverlaps.overlaps #[tS, tS] #[tR] #[.slice (some a) la ca, .slice (some b) lb cb]).run P w = .ok (.bool false) w := by
 have hnb : (a.block != b.block) = true := by simpa using hne
 have hnb' : (a.block == b.block) = false := by simpa using hne
 change Sem.run P (α := Value) (do
  let some t := (#[tS, tS] : Array TypeId)[0]? | stuck "slices.overlaps: no parameter types"
  let .slice elem ← underlying t | stuck "slices.overlaps: slice type expected"
  let size ← sizeOf elem
  match (some a : Option Addr), (some b : Option Addr) with
  | some a, some b =>
   if la = 0 ∨ lb = 0 ∨ size = 0 then pure (Value.bool false)
   else if a.block != b.block && (← frozen a) && (← frozen b) then unsupported .addressObserved
   else do
    if a.block != b.block then do
     noView a; noView b
     if ← mayBeOne a b then return Value.bool ((← choose (.extern "sameAddr.stringBytes" 2)) == 1)
    pure (Value.bool (a.block == b.block && a.off < b.off + lb * size && b.off < a.off + la * size))
  | _, _ => pure (Value.bool false)) w = _
 by_cases h0 : la = 0 ∨ lb = 0 ∨ size = 0
 ·simp [run_underlying ht, hz, h0]
 ·cases hfa : w.frozen? a <;> cases hfa2 : w.frozen? { block := a.block, off := kA + 1 } <;>
   simp [run_underlying ht, hz, h0, hnb, hnb', frozen, noView, viewAt, mayBeOne, stringish, shape, Sem.run, hsa, hsb, hfa, hfa2, hfb, hfe]
theorem shape_of_cell {w : World} {b o : Nat} {v : Value} (h : w.cell? ⟨b, o, none⟩ = some v) : ∃ t k, w.shape? b = some (t, k + 1) := by
 unfold World.cell? at h
 unfold World.shape?
 split at h
 ·rename_i cs e z hq
  simp only at hq
  rw [hq]
  have : o < cs.size := by
   simp only at h
   exact (Array.getElem?_eq_some_iff.1 h).1
  exact ⟨e, cs.size - 1, by simp only; congr 2; omega⟩
 ·cases h
set_option maxHeartbeats 4000000 in
set_option maxRecDepth 100000 in
theorem insert_end_room (g cap n : Nat) (e : TypeId) (cur : Array Value) (xc : List Value) (xb xo xcap : Nat) (w : World) (hg : w.heap[g]? = some (.cells cur e (0, 0))) (hsz : cur.size = cap * 7) (hroom : n + 1 ≤ cap)
  (hxl : xc.length = 7) (hx : ∀ (j : Nat) v, xc[j]? = some v → w.cell? ⟨xb, xo + j, none⟩ = some v) (h1 : ∀ v ∈ xc, v.oneCell' = true) :
  Calls Tryz.prog 64 #[.slice (some ⟨g, 0, none⟩) n cap, .int .i64 n, .slice (some ⟨xb, xo, none⟩) 1 xcap] w fun e' w' =>
   e' = .returned (.slice (some ⟨g, 0, none⟩) (n + 1) cap) ∧ w' = w.setRow g (cur.toList.take (n * 7) ++ xc ++ cur.toList.drop (n * 7 + 7)).toArray := by
 obtain ⟨i0, hi0, hz0, hzs, hzb⟩ := info_parts info_pair
 have hrun : ∀ ty, (Builtin.append_ #[26, 26] ty #[.slice (some ⟨g, 0, none⟩) n cap, .slice (some ⟨xb, xo, none⟩) 1 xcap]).run Tryz.prog w = .ok (.slice (some ⟨g, 0, none⟩) (n + 1) cap) (w.setRow g (cur.toList.take (n * 7) ++ xc ++ cur.toList.drop (n * 7 + 7)).toArray) := fun ty => by
  have := run_append_room' w 26 ty 116 e i0 Tryz.underlying26 hi0 g n cap cur hg ⟨xb, xo, none⟩ 1 xcap xc (by rw [hzs, hxl]) (fun j u hj => by rw [Addr.add_lit]; exact hx j u hj) h1 hroom (by rw [hzs, hxl, hsz]; have := Nat.mul_le_mul_right 7 hroom; omega)
  rw [hzs, hxl] at this
  exact this
 go_enter Tryz.func64, Tryz.ntmps64
 go_wp2_with (at_builtin; refine Lib.wpList_append_run _ rfl _ _ _ _ rfl _ _ rfl rfl _ _ (hrun _) ?_)
 go_ret
 exact ⟨rfl, by simp⟩
def InsNew (w : World) (k : Nat) (cs : List Value) (e' : Ending) (w' : World) : Prop := ∃ (cap' : Nat) (zs : List Value), k ≤ cap' ∧ (∀ u ∈ zs, u.oneCell' = true) ∧ k * 7 + zs.length = cap' * 7 ∧
 e' = .returned (.slice (some ⟨w.heap.size, 0, none⟩) k cap') ∧ ∃ w0 : World, w'.heap = w0.heap ∧ Below w.heap.size w w' ∧ w0.heap[w.heap.size]? = some (.cells (cs ++ zs).toArray 116 (0, 0))
theorem InsNew.of {w : World} {k cap' : Nat} {cs zs : List Value} (h1 : k ≤ cap') (h2 : ∀ u ∈ zs, u.oneCell' = true) (h3 : k * 7 + zs.length = cap' * 7) : InsNew w k cs (.returned (.slice (some ⟨w.heap.size, 0, none⟩) k cap')) (w.drew.alloc (.cells (cs ++ zs).toArray 116)) :=
 ⟨cap', zs, h1, h2, h3, rfl, _, rfl, ((Below.refl _ _).drew).alloc (Nat.le_refl _) _, heap_alloc_new w.drew _⟩
set_option maxHeartbeats 4000000 in
set_option maxRecDepth 100000 in
theorem insert_end_grow (g cap n : Nat) (olds xc : List Value) (xb xo xcap : Nat) (w : World) (hroom : cap < n + 1) (hb : (n + 1) * 104 ≤ 140737488355328) (hol : olds.length = n * 7) (hold : ∀ (j : Nat) v, olds[j]? = some v → w.cell? ⟨g, j, none⟩ = some v)
  (hxl : xc.length = 7) (hx : ∀ (j : Nat) v, xc[j]? = some v → w.cell? ⟨xb, xo + j, none⟩ = some v) :
  Calls Tryz.prog 64 #[.slice (some ⟨g, 0, none⟩) n cap, .int .i64 n, .slice (some ⟨xb, xo, none⟩) 1 xcap] w (InsNew w (n + 1) (olds ++ xc)) := by
 obtain ⟨i0, hi0, hz0, hzs, hzb⟩ := info_parts info_pair
 have hge := grownCap_ge w (n + 1) cap 116
 obtain ⟨cap', hcap'⟩ : ∃ c, c = grownCap w (n + 1) cap 116 := ⟨_, rfl⟩
 obtain ⟨zs, hzs'⟩ : ∃ zs, zs = (Builtin.zeroCells zeroP.cells (grownCap w (n + 1) cap 116 - (n + 1))).toList := ⟨_, rfl⟩
 have hz1 : ∀ u ∈ zs, u.oneCell' = true := by rw [hzs']; exact zeros_one (by simp [zeroP, Value.cells, Value.oneCell']) _
 have hz2 : (n + 1) * 7 + zs.length = cap' * 7 := by
  have : (zeroP.cells).size = 7 := rfl
  rw [hzs', hcap']
  simp only [Array.length_toList, size_zeroCells, this]
  rw [← Nat.add_mul]
  congr 1
  omega
 have hrun : ∀ ty, (Builtin.append_ #[26, 26] ty #[.slice (some ⟨g, 0, none⟩) n cap, .slice (some ⟨xb, xo, none⟩) 1 xcap]).run Tryz.prog w = .ok (.slice (some ⟨w.heap.size, 0, none⟩) (n + 1) cap') (w.drew.alloc (.cells ((olds ++ xc) ++ zs).toArray 116)) := fun ty => by
  have := run_append_grow w 26 ty 116 i0 _ Tryz.underlying26 hi0 hz0 ⟨g, 0, none⟩ n cap olds (by rw [hzs]; exact hol) (fun j u hj => by rw [Addr.add_lit, Nat.zero_add]; exact hold j u hj) ⟨xb, xo, none⟩ 1 xcap xc (by rw [hzs, hxl]) (fun j u hj => by rw [Addr.add_lit]; exact hx j u hj) hroom (by omega) (by rw [hzb]; exact growslice_fits hroom hb)
  rw [this, hcap', hzs']
  congr 3
  apply Array.ext'
  simp
 have hcg : n + 1 ≤ cap' := by rw [hcap']; exact hge
 clear hcap' hzs'
 go_enter Tryz.func64, Tryz.ntmps64
 go_wp2_with (at_builtin; refine Lib.wpList_append_run _ rfl _ _ _ _ rfl _ _ rfl rfl _ _ (hrun _) ?_)
 all_goals (go_ret; have := InsNew.of (w := w) (cs := olds ++ xc) hcg hz1 hz2; rw [List.append_assoc] at this; exact this)
set_option maxHeartbeats 4000000 in
set_option maxRecDepth 100000 in
theorem insert_nil (xc : List Value) (xb xo xcap : Nat) (w : World) (hxl : xc.length = 7) (hx : ∀ (j : Nat) v, xc[j]? = some v → w.cell? ⟨xb, xo + j, none⟩ = some v) :
  Calls Tryz.prog 64 #[.slice none 0 0, .int .i64 0, .slice (some ⟨xb, xo, none⟩) 1 xcap] w (InsNew w 1 xc) := by
 obtain ⟨i0, hi0, hz0, hzs, hzb⟩ := info_parts info_pair
 have hge := grownCap_ge w 1 0 116
 obtain ⟨cap', hcap'⟩ : ∃ c, c = grownCap w 1 0 116 := ⟨_, rfl⟩
 obtain ⟨zs, hzs'⟩ : ∃ zs, zs = (Builtin.zeroCells zeroP.cells (grownCap w 1 0 116 - 1)).toList := ⟨_, rfl⟩
 have hz1 : ∀ u ∈ zs, u.oneCell' = true := by rw [hzs']; exact zeros_one (by simp [zeroP, Value.cells, Value.oneCell']) _
 have hz2 : 7 + zs.length = cap' * 7 := by
  have : (zeroP.cells).size = 7 := rfl
  rw [hzs', hcap']
  simp only [Array.length_toList, size_zeroCells, this]
  omega
 have hrun : ∀ ty, (Builtin.append_ #[26, 26] ty #[.slice none 0 0, .slice (some ⟨xb, xo, none⟩) 1 xcap]).run Tryz.prog w = .ok (.slice (some ⟨w.heap.size, 0, none⟩) 1 cap') (w.drew.alloc (.cells (xc ++ zs).toArray 116)) := fun ty => by
  have := run_append_nil w 26 ty 116 i0 _ Tryz.underlying26 hi0 hz0 ⟨xb, xo, none⟩ 1 xcap xc (by rw [hzs, hxl]) (fun j u hj => by rw [Addr.add_lit]; exact hx j u hj) (by omega) (by omega) (by omega)
  rw [this, hcap', hzs']
  congr 3
  apply Array.ext'
  simp
 have hcg : 1 ≤ cap' := by rw [hcap']; exact hge
 clear hcap' hzs'
 go_enter Tryz.func64, Tryz.ntmps64
 go_wp2_with (at_builtin; refine Lib.wpList_append_run _ rfl _ _ _ _ rfl _ _ rfl rfl _ _ (hrun _) ?_)
 go_ret
 have := InsNew.of (w := w) (k := 1) (cs := xc) hcg hz1 (by omega)
 exact this
def InsSame (w : World) (g cap k : Nat) (e : TypeId) (cs : List Value) (e' : Ending) (w' : World) : Prop := e' = .returned (.slice (some ⟨g, 0, none⟩) k cap) ∧ BelowBut g w w' ∧ ∃ cur' : Array Value, w'.heap[g]? = some (.cells cur' e (0, 0)) ∧ cur'.toList = cs
theorem below_but {g : Nat} {w w' : World} (h1 : w'.os = w.os) (h2 : w'.tape = w.tape) (h3 : w'.output = w.output) (cs : Array Value) (h : w'.heap = (w.setRow g cs).heap) : BelowBut g w w' :=
 ⟨h1, h2, h3, by rw [h]; simp [World.setRow], fun k _ hk => by rw [h]; exact setRow_other w g k cs hk⟩
theorem setRow_setRow (w : World) (g : Nat) (c a b : Array Value) {e : TypeId} (hg : w.heap[g]? = some (.cells c e (0, 0))) : ((w.setRow g a).setRow g b).heap = (w.setRow g b).heap := by
 apply Array.ext_getElem?
 intro k
 by_cases hk : k = g
 ·subst hk
  rw [setRow_heap _ k a b e (0, 0) (setRow_heap _ k c a e (0, 0) hg), setRow_heap _ k c b e (0, 0) hg]
 ·rw [setRow_other _ g k b hk, setRow_other _ g k a hk, setRow_other _ g k b hk]
set_option maxHeartbeats 4000000 in
set_option maxRecDepth 100000 in
theorem insert_shift (g cap n i : Nat) (e : TypeId) (cur : Array Value) (xc : List Value) (xb xo xcap : Nat) (w : World) (hg : w.heap[g]? = some (.cells cur e (0, 0))) (hsz : cur.size = cap * 7) (hroom : n + 1 ≤ cap) (hi : i < n) (hone : ∀ u ∈ cur.toList, u.oneCell' = true) (hn63 : n ≤ 9000000000000000000)
  (hxl : xc.length = 7) (hx : ∀ (j : Nat) v, xc[j]? = some v → w.cell? ⟨xb, xo + j, none⟩ = some v) (h1 : ∀ v ∈ xc, v.oneCell' = true) (hne : xb ≠ g)
  (hov : ∀ lb cb, (callFunc 104 #[.slice (some ⟨xb, xo, none⟩) 1 xcap, .slice (some ⟨g, (i + 1) * 7, none⟩) lb cb]).run Tryz.prog w = .ok (.value (.bool false)) w) :
  Calls Tryz.prog 64 #[.slice (some ⟨g, 0, none⟩) n cap, .int .i64 i, .slice (some ⟨xb, xo, none⟩) 1 xcap] w
   (InsSame w g cap (n + 1) e (cur.toList.take (i * 7) ++ xc ++ (cur.toList.drop (i * 7)).take ((n - i) * 7) ++ cur.toList.drop ((n + 1) * 7))) := by
 obtain ⟨i0, hi0, hz0, hzs, hzb⟩ := info_parts info_pair
 have hz2 : ¬ ((i : Int) = (n : Int)) := by omega
 have hw1 : IntKind.i64.wrap ((i : Int) + 1) = (i : Int) + 1 := by rw [IntKind.wrap_i64]; omega
 have hw2 : IntKind.i64.wrap ((n : Int) + 1) = (n : Int) + 1 := by rw [IntKind.wrap_i64]; omega
 have hcl : cur.toList.length = cap * 7 := by simpa using hsz
 have hle1 : (n + 1) * 7 ≤ cap * 7 := Nat.mul_le_mul_right _ hroom
 obtain ⟨cur1, hcp1, cur2, hcp2, hfin⟩ : ∃ cur1 : Array Value, (∀ ty dc sc, (Builtin.copy_ #[26, 26] ty #[.slice (some ⟨g, (i + 1) * 7, none⟩) (n - i) dc, .slice (some ⟨g, i * 7, none⟩) (n + 1 - i) sc]).run Tryz.prog w.drew = .ok (goInt ((n - i : Nat) : Int)) (w.drew.setRow g cur1)) ∧
   ∃ cur2 : Array Value, (∀ ty dc, (Builtin.copy_ #[26, 26] ty #[.slice (some ⟨g, i * 7, none⟩) (n + 1 - i) dc, .slice (some ⟨xb, xo, none⟩) 1 xcap]).run Tryz.prog (w.drew.setRow g cur1) = .ok (goInt ((1 : Nat) : Int)) ((w.drew.setRow g cur1).setRow g cur2)) ∧
    InsSame w g cap (n + 1) e (cur.toList.take (i * 7) ++ xc ++ (cur.toList.drop (i * 7)).take ((n - i) * 7) ++ cur.toList.drop ((n + 1) * 7)) (.returned (.slice (some ⟨g, 0, none⟩) (n + 1) cap)) ((w.drew.setRow g cur1).setRow g cur2) := by
  have hcsl : ((cur.toList.drop (i * 7)).take ((n - i) * 7)).length = (n - i) * 7 := by
   rw [List.length_take, List.length_drop, hcl]
   omega
  have hcp1 : ∀ ty dc sc, _ := fun ty dc sc => run_copy_row w.drew 26 26 ty 116 i0 Tryz.underlying26 hi0 g ((i + 1) * 7) (n - i) dc e cur hg ⟨g, i * 7, none⟩ (n + 1 - i) sc (n - i) (by simp only [Nat.min_def]; split <;> omega) ((cur.toList.drop (i * 7)).take ((n - i) * 7)) (by rw [hzs]; exact hcsl) (fun j u hj => by
   rw [Addr.add_lit, show w.drew.cell? ⟨g, i * 7 + j, none⟩ = w.cell? ⟨g, i * 7 + j, none⟩ from rfl, cell_of_row w g _ cur e (0, 0) hg]
   rw [List.getElem?_take] at hj
   split at hj
   ·rw [List.getElem?_drop] at hj
    simpa using hj
   ·cases hj) (fun u hu => hone u (List.mem_of_mem_drop (List.mem_of_mem_take hu))) (by rw [hcsl, hsz]; omega)
  refine ⟨_, hcp1, ?_⟩
  generalize hcur1 : (cur.toList.take ((i + 1) * 7) ++ (cur.toList.drop (i * 7)).take ((n - i) * 7) ++ cur.toList.drop ((i + 1) * 7 + ((cur.toList.drop (i * 7)).take ((n - i) * 7)).length)).toArray = cur1
  have hc1 : cur1.toList = cur.toList.take ((i + 1) * 7) ++ (cur.toList.drop (i * 7)).take ((n - i) * 7) ++ cur.toList.drop ((i + 1) * 7 + ((cur.toList.drop (i * 7)).take ((n - i) * 7)).length) := by rw [← hcur1]
  have hc1l : cur1.size = cap * 7 := by
   have : cur1.toList.length = cap * 7 := by
    rw [hc1]
    simp only [List.length_append, List.length_take, List.length_drop, hcl]
    omega
   simpa using this
  have hg1 : (w.drew.setRow g cur1).heap[g]? = some (.cells cur1 e (0, 0)) := setRow_heap w.drew g cur cur1 e (0, 0) hg
  have hcp2 : ∀ ty dc, _ := fun ty dc => run_copy_row (w.drew.setRow g cur1) 26 26 ty 116 i0 Tryz.underlying26 hi0 g (i * 7) (n + 1 - i) dc e cur1 hg1 ⟨xb, xo, none⟩ 1 xcap 1 (by simp only [Nat.min_def]; split <;> omega) xc (by rw [hzs]; exact hxl) (fun j u hj => by
   rw [Addr.add_lit, cell_setRow_other _ g _ ⟨xb, xo + j, none⟩ hne]
   exact hx j u hj) h1 (by rw [hxl, hc1l]; omega)
  refine ⟨_, hcp2, rfl, below_but rfl rfl rfl _ (setRow_setRow w.drew g cur _ _ hg), _, setRow_heap (w.drew.setRow g cur1) g cur1 _ e (0, 0) hg1, ?_⟩
  have hl1 : (cur.toList.take ((i + 1) * 7)).length = (i + 1) * 7 := by rw [List.length_take, hcl]; omega
  have e1 : cur1.toList.take (i * 7) = cur.toList.take (i * 7) := by
   rw [hc1, List.append_assoc, List.take_append_of_le_length (by omega), List.take_take]
   congr 1
   omega
  have e2 : cur1.toList.drop (i * 7 + xc.length) = (cur.toList.drop (i * 7)).take ((n - i) * 7) ++ cur.toList.drop ((n + 1) * 7) := by
   rw [hc1, hxl, List.append_assoc, show i * 7 + 7 = (cur.toList.take ((i + 1) * 7)).length by omega, List.drop_left, hcsl]
   congr 2
   omega
  rw [e1, e2]
  simp
 have hn0 : n - i ≤ n := by omega
 clear hcl hle1 hsz hg
 go_enter Tryz.func64, Tryz.ntmps64
 go_wp2_with (simp only [hov])
 have mixed : Tryz.prog.follows .mixedOrders = true := by kernel_rfl
 have hb1 : (0 : Int) ≤ (i : Int) + 1 := by omega
 have hin : i ≤ n := by omega
 have htn : ((i : Int) + 1).toNat = i + 1 := by omega
 have hb2 : ¬ (cap = i + 1) := by omega
 have hb3 : (i : Int) ≤ (n : Int) + 1 := by omega
 have hb4 : ¬ (cap = i) := by omega
 have hb5 : i ≤ n + 1 := by omega
 go_region_law_o (refine step_copy_runI rfl _ _ 26 26 rfl _ _ (by simp [Act.eval, Act.put]) (by simp [Act.eval, Act.put]) (hcp1 _ _ _) ?_)
 go_wp2_with (at_builtin; refine wpList_copy_runI _ rfl _ _ 26 26 rfl _ _ rfl rfl (hcp2 _ _) ?_)
 go_ret
 exact hfin
set_option maxHeartbeats 4000000 in
set_option maxRecDepth 100000 in
theorem insert_grow (g cap n i : Nat) (e : TypeId) (cur : Array Value) (xc : List Value) (xb xo xcap : Nat) (w : World) (hg : w.heap[g]? = some (.cells cur e (0, 0))) (hsz : cur.size = cap * 7) (hnc : n ≤ cap) (hroom : cap < n + 1) (hb : (n + 1) * 104 ≤ 140737488355328) (hi : i < n) (hone : ∀ u ∈ cur.toList, u.oneCell' = true)
  (hxl : xc.length = 7) (hx : ∀ (j : Nat) v, xc[j]? = some v → w.cell? ⟨xb, xo + j, none⟩ = some v) (h1 : ∀ v ∈ xc, v.oneCell' = true) :
  Calls Tryz.prog 64 #[.slice (some ⟨g, 0, none⟩) n cap, .int .i64 i, .slice (some ⟨xb, xo, none⟩) 1 xcap] w
   (InsNew w (n + 1) (cur.toList.take (i * 7) ++ xc ++ (cur.toList.drop (i * 7)).take ((n - i) * 7))) := by
 obtain ⟨i0, hi0, hz0, hzs, hzb⟩ := info_parts info_pair
 have hz2 : ¬ ((i : Int) = (n : Int)) := by omega
 have hz3 : (cap : Int) < (n : Int) + 1 := by omega
 have hcl : cur.toList.length = cap * 7 := by simpa using hsz
 have hle1 : n * 7 ≤ cap * 7 := Nat.mul_le_mul_right _ hnc
 have hge := grownCap_ge w (n + 1) cap 116
 have hgw : g < w.heap.size := (Array.getElem?_eq_some_iff.1 hg).1
 obtain ⟨G, hGn, W1, W2, W3, hrz, hA, hB, hfin⟩ : ∃ G, n + 1 ≤ G ∧ ∃ W1 W2 W3 : World, (∀ ty, (Builtin.append_ #[26, 3] ty #[.slice (some ⟨g, 0, none⟩) i cap, .int .i64 ((n : Int) + 1 - (i : Int))]).run Tryz.prog w = .ok (.slice (some ⟨w.heap.size, 0, none⟩) (n + 1) G) W1) ∧
   (∀ ty dc, (Builtin.copy_ #[26, 26] ty #[.slice (some ⟨w.heap.size, i * 7, none⟩) (n + 1 - i) dc, .slice (some ⟨xb, xo, none⟩) 1 xcap]).run Tryz.prog W1 = .ok (goInt ((1 : Nat) : Int)) W2) ∧
   (∀ ty dc sc, (Builtin.copy_ #[26, 26] ty #[.slice (some ⟨w.heap.size, (i + 1) * 7, none⟩) (n - i) dc, .slice (some ⟨g, i * 7, none⟩) (n - i) sc]).run Tryz.prog W2.drew = .ok (goInt ((n - i : Nat) : Int)) W3) ∧
   InsNew w (n + 1) (cur.toList.take (i * 7) ++ xc ++ (cur.toList.drop (i * 7)).take ((n - i) * 7)) (.returned (.slice (some ⟨w.heap.size, 0, none⟩) (n + 1) G)) W3 := by
  have hold : (Builtin.firstCells i0.size i (.slice (some ⟨g, 0, none⟩) i cap)).run Tryz.prog w.drew = .ok (cur.toList.take (i * 7)).toArray w.drew := by
   rw [hzs]
   exact run_firstCells_some w.drew 7 i ⟨g, 0, none⟩ i cap (cur.toList.take (i * 7)) (by rw [List.length_take]; omega) (fun j v hj => by
    rw [Addr.add_lit, Nat.zero_add, show w.drew.cell? ⟨g, j, none⟩ = w.cell? ⟨g, j, none⟩ from rfl, cell_of_row w g _ cur e (0, 0) hg]
    rw [List.getElem?_take] at hj
    split at hj
    ·simpa using hj
    ·cases hj)
  have hkk : (n : Int) + 1 - (i : Int) = ((n + 1 - i : Nat) : Int) := by omega
  have hik : i + (n + 1 - i) = n + 1 := by omega
  have hrz : ∀ ty, _ := fun ty => Lib.run_append_grow_zeros w 26 3 ty 116 i0 _ .i64 .i64 Tryz.underlying26 Tryz.underlying3 hi0 hz0 (some ⟨g, 0, none⟩) i cap (cur.toList.take (i * 7)) hold (n + 1 - i) (by omega) (by omega) (by omega) (by omega) (by rw [hzb]; omega) (by rw [hzb, hik]; exact growslice_fits hroom hb)
  simp only [hik] at hrz
  have hzl : ∀ k, (Builtin.zeroCells zeroP.cells k).toList.length = k * 7 := fun k => by
   have : (zeroP.cells).size = 7 := rfl
   simp only [Array.length_toList, size_zeroCells, this]
  have hzo : ∀ k, ∀ u ∈ (Builtin.zeroCells zeroP.cells k).toList, u.oneCell' = true := fun k => zeros_one (by simp [zeroP, Value.cells, Value.oneCell']) k
  generalize grownCap w (n + 1) cap 116 = G at *
  generalize hZ1 : Builtin.zeroCells zeroP.cells (n + 1 - i) = Z1 at hrz
  generalize hZ2 : Builtin.zeroCells zeroP.cells (G - (n + 1)) = Z2 at hrz
  have l1 : Z1.toList.length = (n + 1 - i) * 7 := by rw [← hZ1]; exact hzl _
  have l2 : Z2.toList.length = (G - (n + 1)) * 7 := by rw [← hZ2]; exact hzl _
  have o2 : ∀ u ∈ Z2.toList, u.oneCell' = true := by rw [← hZ2]; exact hzo _
  have lt : (cur.toList.take (i * 7)).length = i * 7 := by rw [List.length_take]; omega
  generalize hROW : (cur.toList.take (i * 7)).toArray ++ Z1 ++ Z2 = ROW at hrz
  have hRl : ROW.toList = cur.toList.take (i * 7) ++ Z1.toList ++ Z2.toList := by rw [← hROW]; simp
  have hRs : ROW.size = G * 7 := by
   have : ROW.toList.length = G * 7 := by rw [hRl, List.length_append, List.length_append, lt, l1, l2]; omega
   simpa using this
  have hN1 : (w.drew.alloc (.cells ROW 116)).heap[w.heap.size]? = some (.cells ROW 116 (0, 0)) := heap_alloc_new w.drew _
  have hW1c : ∀ (b o : Nat) v, w.cell? ⟨b, o, none⟩ = some v → (w.drew.alloc (.cells ROW 116)).cell? ⟨b, o, none⟩ = some v := fun b o v h => by
   rw [World.cell?_alloc_lt w.drew _ _ (World.block_lt_of_cell? w.drew _ h)]
   exact h
  have hne : ∀ (b o : Nat) v, w.cell? ⟨b, o, none⟩ = some v → b ≠ w.heap.size := fun b o v h e => by
   have := World.block_lt_of_cell? w _ h
   simp only at this
   omega
  have hA : ∀ ty dc, _ := fun ty dc => run_copy_row (w.drew.alloc (.cells ROW 116)) 26 26 ty 116 i0 Tryz.underlying26 hi0 w.heap.size (i * 7) (n + 1 - i) dc 116 ROW hN1 ⟨xb, xo, none⟩ 1 xcap 1 (by simp only [Nat.min_def]; split <;> omega) xc (by rw [hzs]; exact hxl) (fun j u hj => by
   rw [Addr.add_lit]
   exact hW1c _ _ _ (hx j u hj)) h1 (by rw [hxl, hRs]; omega)
  generalize hRA : (ROW.toList.take (i * 7) ++ xc ++ ROW.toList.drop (i * 7 + xc.length)).toArray = RA at hA
  have hRAl : RA.toList = cur.toList.take (i * 7) ++ xc ++ ROW.toList.drop (i * 7 + 7) := by
   rw [← hRA, hRl, List.append_assoc (cur.toList.take (i * 7)), List.take_append_of_le_length (by omega), List.take_of_length_le (by omega), hxl]
  have hRAs : RA.size = G * 7 := by
   have : RA.toList.length = G * 7 := by rw [hRAl, List.length_append, List.length_append, lt, hxl, List.length_drop]; simp only [Array.length_toList, hRs]; omega
   simpa using this
  have hN2 : ((w.drew.alloc (.cells ROW 116)).setRow w.heap.size RA).heap[w.heap.size]? = some (.cells RA 116 (0, 0)) := setRow_heap _ _ ROW RA 116 (0, 0) hN1
  have hcsl : ((cur.toList.drop (i * 7)).take ((n - i) * 7)).length = (n - i) * 7 := by
   rw [List.length_take, List.length_drop, hcl]
   omega
  have hB : ∀ ty dc sc, _ := fun ty dc sc => run_copy_row ((w.drew.alloc (.cells ROW 116)).setRow w.heap.size RA).drew 26 26 ty 116 i0 Tryz.underlying26 hi0 w.heap.size ((i + 1) * 7) (n - i) dc 116 RA hN2 ⟨g, i * 7, none⟩ (n - i) sc (n - i) (by simp only [Nat.min_def]; split <;> omega) ((cur.toList.drop (i * 7)).take ((n - i) * 7)) (by rw [hzs]; exact hcsl) (fun j u hj => by
   have h2 : w.cell? ⟨g, i * 7 + j, none⟩ = some u := by
    rw [cell_of_row w g _ cur e (0, 0) hg]
    rw [List.getElem?_take] at hj
    split at hj
    ·rw [List.getElem?_drop] at hj
     simpa using hj
    ·cases hj
   rw [Addr.add_lit]
   exact (cell_setRow_other (w.drew.alloc (.cells ROW 116)) w.heap.size RA ⟨g, i * 7 + j, none⟩ (hne _ _ _ h2)).trans (hW1c _ _ _ h2)) (fun u hu => hone u (List.mem_of_mem_drop (List.mem_of_mem_take hu))) (by rw [hcsl, hRAs]; omega)
  refine ⟨G, hge, _, _, _, (fun ty => by rw [hkk]; exact hrz ty), hA, hB, G, Z2.toList, hge, o2, by rw [l2]; omega, rfl, _, rfl, ?_, ?_⟩
  ·refine Below.trans (b := (w.drew.alloc (.cells ROW 116))) (((Below.refl _ _).drew).alloc (Nat.le_refl _) _) ?_
   exact ⟨rfl, rfl, rfl, by simp [World.setRow], fun k hk => (setRow_other _ _ k _ (by omega)).trans (setRow_other _ _ k _ (by omega))⟩
  ·have h3 := setRow_heap ((w.drew.alloc (.cells ROW 116)).setRow w.heap.size RA).drew w.heap.size RA (RA.toList.take ((i + 1) * 7) ++ (cur.toList.drop (i * 7)).take ((n - i) * 7) ++ RA.toList.drop ((i + 1) * 7 + ((cur.toList.drop (i * 7)).take ((n - i) * 7)).length)).toArray 116 (0, 0) hN2
   refine h3.trans ?_
   congr 2
   have e1 : RA.toList.take ((i + 1) * 7) = cur.toList.take (i * 7) ++ xc := by
    rw [hRAl, List.take_append_of_le_length (by rw [List.length_append, lt, hxl]; omega), List.take_of_length_le (by rw [List.length_append, lt, hxl]; omega)]
   have e2 : RA.toList.drop ((i + 1) * 7 + ((cur.toList.drop (i * 7)).take ((n - i) * 7)).length) = Z2.toList := by
    rw [hRAl, hRl, hcsl]
    rw [show (i + 1) * 7 + (n - i) * 7 = (cur.toList.take (i * 7) ++ xc).length + (n - i) * 7 by rw [List.length_append, lt, hxl]; omega, ← List.drop_drop, List.drop_left, List.drop_drop]
    rw [show i * 7 + 7 + (n - i) * 7 = (cur.toList.take (i * 7) ++ Z1.toList).length by rw [List.length_append, lt, l1]; omega, List.drop_left]
   rw [e1, e2]
 have hn0 : n - i ≤ n := by omega
 clear hcl hle1 hsz hg hge
 have hw1 : IntKind.i64.wrap ((i : Int) + 1) = (i : Int) + 1 := by rw [IntKind.wrap_i64]; omega
 have hw2 : IntKind.i64.wrap ((n : Int) + 1) = (n : Int) + 1 := by rw [IntKind.wrap_i64]; omega
 have hw3 : IntKind.i64.wrap ((n : Int) + 1 - i) = (n : Int) + 1 - i := by rw [IntKind.wrap_i64]; omega
 have mixed : Tryz.prog.follows .mixedOrders = true := by kernel_rfl
 have hb1 : (0 : Int) ≤ (i : Int) + 1 := by omega
 have hin : i ≤ n := by omega
 have htn : ((i : Int) + 1).toNat = i + 1 := by omega
 have hGi : ¬ (G = i) := by omega
 have hGim : ¬ (G = i + 1) := by omega
 have hci : ¬ (cap = i) := by omega
 have hb3 : (i : Int) ≤ (n : Int) + 1 := by omega
 have hb5 : i ≤ n + 1 := by omega
 have hb6 : i ≤ cap := by omega
 go_enter Tryz.func64, Tryz.ntmps64
 go_wp2_with (first
  | (at_builtin; refine Lib.wpList_append_run _ rfl _ _ _ _ rfl _ _ rfl rfl _ _ (hrz _) ?_)
  | (at_builtin; refine wpList_copy_runI _ rfl _ _ 26 26 rfl _ _ rfl rfl (hA _ _) ?_))
 go_region_law_o (refine step_copy_runI rfl _ _ 26 26 rfl _ _ (by simp [Act.eval, Act.put]) (by simp [Act.eval, Act.put]) (hB _ _ _) ?_)
 go_wp2
 go_ret
 exact hfin
end Go.Proofs.YtgidajjjpeboeaaGreatDoor
/-
 slices.Insert at pairs: its contracts.
-/
namespace Go.Proofs.YtgidajjjpeboeaaGreatDoor
open Go.RowKit
theorem flatten_take {esz : Nat} : ∀ {rows : List (List AV)} (i : Nat), (∀ c ∈ rows, c.length = esz) → (rows.take i).flatten = rows.flatten.take (i * esz)
 | [], i, _ => by simp
 | c :: rows, 0, _ => by simp
 | c :: rows, i + 1, h => by
  have hc := h c (by simp)
  rw [List.take_succ_cons, List.flatten_cons, List.flatten_cons, flatten_take i fun c hc => h c (by simp [hc]), List.take_append, hc, List.take_of_length_le (l := c) (by rw [hc, Nat.add_mul]; omega), show (i + 1) * esz - esz = i * esz by rw [Nat.add_mul]; omega]
theorem flatten_drop {esz : Nat} : ∀ {rows : List (List AV)} (i : Nat), (∀ c ∈ rows, c.length = esz) → (rows.drop i).flatten = rows.flatten.drop (i * esz)
 | [], i, _ => by simp
 | c :: rows, 0, _ => by simp
 | c :: rows, i + 1, h => by
  have hc := h c (by simp)
  rw [List.drop_succ_cons, List.flatten_cons, flatten_drop i fun c hc => h c (by simp [hc]), List.drop_append, hc, List.drop_of_length_le (l := c) (by rw [hc, Nat.add_mul]; omega), show (i + 1) * esz - esz = i * esz by rw [Nat.add_mul]; omega, List.nil_append]
theorem flatten_len {esz : Nat} : ∀ {rows : List (List AV)}, (∀ c ∈ rows, c.length = esz) → rows.flatten.length = rows.length * esz
 | [], _ => by simp
 | c :: rows, h => by rw [List.flatten_cons, List.length_append, List.length_cons, flatten_len fun c hc => h c (by simp [hc]), h c (by simp), Nat.add_mul]; omega
theorem ins_rel {σ : Sg} {rows : List (List AV)} {c : List AV} {cur xc : List Value} {i : Nat} (hl : ∀ c ∈ rows, c.length = 7) (hi : i ≤ rows.length) (h : RelL σ (cur.take (rows.length * 7)) rows.flatten) (hx : RelL σ xc c) :
  RelL σ (cur.take (i * 7) ++ xc ++ (cur.drop (i * 7)).take ((rows.length - i) * 7)) (rows.take i ++ c :: rows.drop i).flatten := by
 rw [List.flatten_append, List.flatten_cons, flatten_take i hl, flatten_drop i hl, ← List.append_assoc]
 have h1 := h.take (i * 7)
 have h2 := h.drop (i * 7)
 rw [List.take_take, Nat.min_eq_left (by omega)] at h1
 rw [List.drop_take, show rows.length * 7 - i * 7 = (rows.length - i) * 7 by omega] at h2
 exact (h1.append hx).append h2
theorem ins_len {rows : List (List AV)} {c : List AV} {i : Nat} (hl : ∀ c ∈ rows, c.length = 7) (hc : c.length = 7) (hi : i ≤ rows.length) : (rows.take i ++ c :: rows.drop i).length = rows.length + 1 ∧ ∀ d ∈ rows.take i ++ c :: rows.drop i, d.length = 7 := by
 constructor
 ·simp; omega
 ·intro d hd
  rcases List.mem_append.1 hd with hd | hd
  ·exact hl d (List.mem_of_mem_take hd)
  ·rcases List.mem_cons.1 hd with rfl | hd
   ·exact hc
   ·exact hl d (List.mem_of_mem_drop hd)
abbrev InsPost (σ : Sg) (w : World) (g : Nat) (rows' : List (List AV)) (e : Ending) (w' : World) : Prop := ∃ σ' g' cap', e = .returned (.slice (some ⟨g', 0, none⟩) rows'.length cap') ∧ Ext σ σ' w.heap.size ∧ Holds σ' w' ∧ BelowBut g w w' ∧ (g' = g ∨ w.heap.size ≤ g') ∧ FRowW σ' w' g' cap' 7 rows'
theorem ins_same {σ : Sg} {w w' : World} {g cap i : Nat} {e : TypeId} {rows : List (List AV)} {c : List AV} {cur : Array Value} {xc : List Value} {e' : Ending} (hh : Holds σ w) (hsz : cur.size = cap * 7) (hcap : rows.length + 1 ≤ cap) (hl : ∀ c ∈ rows, c.length = 7) (hc : c.length = 7) (hi : i ≤ rows.length)
  (h : RelL σ (cur.toList.take (rows.length * 7)) rows.flatten) (hone : ∀ u ∈ cur.toList, u.oneCell' = true) (hfree : ∀ j, σ g j = none) (hx : RelL σ xc c)
  (hs : InsSame w g cap (rows.length + 1) e (cur.toList.take (i * 7) ++ xc ++ (cur.toList.drop (i * 7)).take ((rows.length - i) * 7) ++ cur.toList.drop ((rows.length + 1) * 7)) e' w') : InsPost σ w g (rows.take i ++ c :: rows.drop i) e' w' := by
 obtain ⟨he, hb, cur', hg', hcur'⟩ := hs
 obtain ⟨l1, l2⟩ := ins_len (c := c) (i := i) hl hc hi
 have hr := ins_rel (xc := xc) hl hi h hx
 have hcl : cur.toList.length = cap * 7 := by simpa using hsz
 have hle : (rows.length + 1) * 7 ≤ cap * 7 := Nat.mul_le_mul_right _ hcap
 have hml : (cur.toList.take (i * 7) ++ xc ++ (cur.toList.drop (i * 7)).take ((rows.length - i) * 7)).length = (rows.length + 1) * 7 := by
  rw [hr.1, flatten_len l2, l1]
 refine ⟨σ, g, cap, by rw [he, l1], Ext.refl _ _, fun b q v hv => ?_, hb, .inl rfl, e, cur', hg', ?_, by rw [l1]; exact hcap, l2, ?_, fun u hu => ?_, hfree⟩
 ·have h1 := hh _ _ _ hv
  have hne : b ≠ g := fun e => by rw [e, hfree] at hv; cases hv
  have hlt := World.block_lt_of_cell? w _ h1
  simp only at hlt
  rw [← h1]
  unfold World.cell?
  simp only
  rw [hb.block b hlt hne]
 ·have : cur'.toList.length = cap * 7 := by
   rw [hcur', List.length_append, hml, List.length_drop, hcl]
   omega
  simpa using this
 ·rw [l1, hcur', ← hml, List.take_left]
  exact hr
 ·rw [hcur'] at hu
  rcases List.mem_append.1 hu with hu | hu
  ·exact hr.one u hu
  ·exact hone u (List.mem_of_mem_drop hu)
theorem ins_new {σ : Sg} {w w' : World} {k : Nat} {cs : List Value} {rows : List (List AV)} {e' : Ending} (hh : Holds σ w) (hk : rows.length = k) (hl : ∀ c ∈ rows, c.length = 7) (hr : RelL σ cs rows.flatten) (hs : InsNew w k cs e' w') :
  ∃ σ' g cap, e' = .returned (.slice (some ⟨g, 0, none⟩) rows.length cap) ∧ Ext σ σ' w.heap.size ∧ Holds σ' w' ∧ Below w.heap.size w w' ∧ w.heap.size ≤ g ∧ FRowW σ' w' g cap 7 rows := by
 obtain ⟨cap', zs, h1, h2, h3, he, w0, hw, hb, hg⟩ := hs
 have hcl : cs.length = k * 7 := by rw [hr.1, flatten_len hl, hk]
 refine ⟨σ, w.heap.size, cap', by rw [he, hk], Ext.refl _ _, fun b q v hv => (hb.cell (p := ⟨b, q, none⟩) (World.block_lt_of_cell? w _ (hh _ _ _ hv))).trans (hh _ _ _ hv), hb, Nat.le_refl _, 116, _, by rw [hw]; exact hg, ?_, by omega, hl, ?_, fun u hu => ?_, fun j => ?_⟩
 ·simp only [List.size_toArray, List.length_append]
  omega
 ·rw [hk, ← hcl]
  simpa using hr
 ·rcases List.mem_append.1 (by simpa using hu) with hu | hu
  ·exact hr.one u hu
  ·exact h2 u hu
 ·cases hs : σ w.heap.size j with
  | none => rfl
  | some v =>
   have := World.block_lt_of_cell? w _ (hh _ _ _ hs)
   simp at this
theorem one_row {σ : Sg} {w : World} (hh : Holds σ w) {vs : List Value} {i : Int} {c : List AV} (hr : RelPs σ vs [.int .i64 i, .lst .any 7 [c]]) : ∃ (xcap xb xo : Nat) (xc : List Value), vs = [.int .i64 i, .slice (some ⟨xb, xo, none⟩) 1 xcap] ∧ xc.length = 7 ∧ c.length = 7 ∧ RelL σ xc c ∧ (∀ (j : Nat) v, xc[j]? = some v → w.cell? ⟨xb, xo + j, none⟩ = some v) ∧ ∃ v, σ xb xo = some v := by
 have hl : vs.length = 2 := hr.1
 obtain ⟨v1, v2, rfl⟩ : ∃ a b, vs = [a, b] := by
  rcases vs with _ | ⟨a, _ | ⟨b, _ | ⟨d, l⟩⟩⟩ <;> simp at hl
  exact ⟨a, b, rfl⟩
 have h1 : Rel1 σ v1 (.int .i64 i) := hr.2 0 v1 _ rfl rfl
 have h2 : Rel1 σ v2 (.lst .any 7 [c]) := hr.2 1 v2 _ rfl rfl
 cases h1
 obtain ⟨A, xcap, xb, xo, xc, rfl, hcap, hA, hsz, hnl, hrel, hcell⟩ := lst_cells h2
 have := hA (by simp)
 subst this
 have hc := hsz c (by simp)
 have hx7 : xc.length = 7 := by simpa using hnl
 refine ⟨xcap, xb, xo, xc, rfl, hx7, hc, by simpa using hrel, fun j v hv => hh _ _ _ (hcell j v hv), ?_⟩
 have h0 : xc[0]? = some xc[0] := List.getElem?_eq_getElem (by omega)
 exact ⟨_, hcell 0 _ h0⟩
theorem insert_mn (c : List AV) : MN Tryz.prog 64 [.int .i64 0, .lst .any 7 [c]] 7 [c] := by
 refine ⟨by kernel_rfl, fun σ w vs hh hr hg => ?_⟩
 obtain ⟨xcap, xb, xo, xc, rfl, hx7, hc, hxr, hxc, _⟩ := one_row hh hr
 exact (insert_nil xc xb xo xcap w hx7 hxc).mono fun e w' h => ins_new hh rfl (by simpa using hc) (by simpa using hxr) h
theorem insert_mr (rows : List (List AV)) (i : Nat) (c : List AV) (hi : i ≤ rows.length) (hb : (rows.length + 1) * 104 ≤ 140737488355328) :
  MR Tryz.prog 64 7 rows [.int .i64 i, .lst .any 7 [c]] (rows.take i ++ c :: rows.drop i) := by
 refine ⟨by kernel_rfl, fun σ w g cap vs hh hF hr hg => ?_⟩
 obtain ⟨xcap, xb, xo, xc, rfl, hx7, hc, hxr, hxc, xv, hxs⟩ := one_row hh hr
 obtain ⟨e, cur, hg, hsz, hcap, hl, hrel, hone, hfree⟩ := hF
 have hcl : cur.toList.length = cap * 7 := by simpa using hsz
 obtain ⟨l1, l2⟩ := ins_len (c := c) (i := i) hl hc hi
 have hr' := ins_rel (xc := xc) hl hi hrel hxr
 have hgw : g < w.heap.size := (Array.getElem?_eq_some_iff.1 hg).1
 have fromNew : ∀ e' w', InsNew w (rows.length + 1) (cur.toList.take (i * 7) ++ xc ++ (cur.toList.drop (i * 7)).take ((rows.length - i) * 7)) e' w' → InsPost σ w g (rows.take i ++ c :: rows.drop i) e' w' := fun e' w' h => by
  obtain ⟨σ', g', cap', k1, k2, k3, k4, k5, k6⟩ := ins_new hh l1 l2 hr' h
  exact ⟨σ', g', cap', k1, k2, k3, ⟨k4.os, k4.tape, k4.output, k4.size, fun k hk _ => k4.block k hk⟩, .inr k5, k6⟩
 by_cases hroom : rows.length + 1 ≤ cap
 ·have hle : (rows.length + 1) * 7 ≤ cap * 7 := Nat.mul_le_mul_right _ hroom
  by_cases hin : i = rows.length
  ·subst hin
   refine (insert_end_room g cap rows.length e cur xc xb xo xcap w hg hsz hroom hx7 hxc hxr.one).mono fun e' w' h => ?_
   obtain ⟨h1, rfl⟩ := h
   refine ins_same (i := rows.length) hh hsz hroom hl hc (Nat.le_refl _) hrel hone hfree hxr (e := e) ⟨h1, below_but rfl rfl rfl _ rfl, _, setRow_heap w g cur _ e (0, 0) hg, ?_⟩
   ·rw [Nat.sub_self, Nat.zero_mul, List.take_zero, List.append_nil, Nat.add_mul]
  ·have hne : xb ≠ g := fun e => by rw [e, hfree] at hxs; cases hxs
   obtain ⟨tA, kA, hsa⟩ := shape_of_cell (hh _ _ _ hxs)
   obtain ⟨kB, hkB⟩ : ∃ kB, cur.size = kB + 1 := ⟨cur.size - 1, by omega⟩
   have hsb : w.shape? g = some (e, kB + 1) := by unfold World.shape?; rw [hg, ← hkB]
   have hov : ∀ lb cb, (callFunc 104 #[.slice (some ⟨xb, xo, none⟩) 1 xcap, .slice (some ⟨g, (i + 1) * 7, none⟩) lb cb]).run Tryz.prog w = .ok (.value (.bool false)) w := fun lb cb => by
    rw [run_callFunc_extern Tryz.func104 (by kernel_rfl) (by kernel_rfl) (by kernel_rfl) (e := Extern.SlicesOverlaps.overlaps #[26, 26] #[4]) (by kernel_rfl),
     run_overlaps_row w 26 4 116 Tryz.underlying26 7 (fun w => by obtain ⟨i0, hi0, hz0, hzs, hzb⟩ := info_parts info_pair; simp [sizeOf, typeInfo, hi0, hzs]) ⟨xb, xo, none⟩ ⟨g, (i + 1) * 7, none⟩ 1 xcap lb cb hne tA e kA kB hsa hsb (by unfold World.frozen?; rw [hg]; simp) (by unfold World.frozen?; rw [hg]; simp)]
    rfl
   exact (insert_shift g cap rows.length i e cur xc xb xo xcap w hg hsz hroom (by omega) hone (by omega) hx7 hxc hxr.one hne hov).mono fun e' w' h => ins_same hh hsz hroom hl hc hi hrel hone hfree hxr h
 ·by_cases hin : i = rows.length
  ·subst hin
   refine (insert_end_grow g cap rows.length (cur.toList.take (rows.length * 7)) xc xb xo xcap w (by omega) hb (by rw [List.length_take]; have : rows.length * 7 ≤ cap * 7 := Nat.mul_le_mul_right _ hcap; omega) (fun j v hj => ?_) hx7 hxc).mono fun e' w' h => fromNew e' w' ?_
   ·rw [cell_of_row w g _ cur e (0, 0) hg]
    rw [List.getElem?_take] at hj
    split at hj
    ·simpa using hj
    ·cases hj
   ·rw [Nat.sub_self, Nat.zero_mul, List.take_zero, List.append_nil]
    exact h
  ·exact (insert_grow g cap rows.length i e cur xc xb xo xcap w hg hsz hcap (by omega) hb (by omega) hone hx7 hxc hxr.one).mono fromNew
end Go.Proofs.YtgidajjjpeboeaaGreatDoor
