/-
  The texts that the claim wants, one behind the other: part 13.
-/
import Derived.Test.YtgidajjjpeboeaaGreatDoorS12
import Derived.Lib.SlicesCompact
import Derived.Sort.EncStr
import Derived.Sort.Walk0
import Derived.Test.YtgidajjjpeboeaaGreatDoorChecked
import Derived.KernelRfl
set_option linter.unusedSimpArgs false
set_option linter.unusedVariables false
namespace Go.Proofs.YtgidajjjpeboeaaGreatDoor
open Go.RowKit
def l8 (s : ByteArray) : List UInt8 := s.data.toList
def b8 (l : List UInt8) : ByteArray := ⟨l.toArray⟩
def tlC {α : Type} [DecidableEq α] : α → List α → List α
 | _, [] => []
 | p, y :: l => if y = p then tlC y l else y :: tlC y l
theorem comp_aux {α : Type} [Inhabited α] [DecidableEq α] (d : Array α) : ∀ (l : List α) (k : Nat) (p : α), 0 < k → d.toList.drop k = l → d[k - 1]! = p → ((List.range' k l.length).filter (Lib.keeps d)).map (d[·]!) = tlC p l
 | [], k, p, _, _, _ => rfl
 | y :: l, k, p, hk, hd, hp => by
  have hkd : k < d.toList.length := by
   by_cases h : k < d.toList.length
   ·exact h
   ·rw [List.drop_eq_nil_of_le (by omega)] at hd
    cases hd
  rw [List.drop_eq_getElem_cons hkd] at hd
  injection hd with hy hl
  have hky : d[k]! = y := by
   rw [getElem!_pos d k (by simpa using hkd), ← hy]
   simp
  have ih := comp_aux d l (k + 1) y (by omega) hl (by rw [Nat.add_sub_cancel]; exact hky)
  have hkk : Lib.keeps d k = decide (y ≠ p) := by
   unfold Lib.keeps
   rw [hky, hp]
   simp [show k ≠ 0 by omega]
  rw [List.length_cons, List.range'_succ, tlC]
  by_cases h : y = p
  ·rw [List.filter_cons_of_neg (by rw [hkk]; simp [h]), if_pos h, ih]
  ·rw [List.filter_cons_of_pos (by rw [hkk]; simp [h]), if_neg h, List.map_cons, ih]
   show d[k]! :: _ = _
   rw [hky]
theorem compact_cons {α : Type} [Inhabited α] [DecidableEq α] (x : α) (l : List α) : Lib.compact (x :: l) = x :: tlC x l := by
 unfold Lib.compact Lib.compactUpTo
 rw [List.length_cons, List.range_eq_range', List.range'_succ]
 have h0 : Lib.keeps (x :: l).toArray 0 = true := Lib.keeps_lt_one _ 0 (by omega)
 rw [List.filter_cons_of_pos h0, List.map_cons, comp_aux (x :: l).toArray l 1 x (by omega) rfl (by simp)]
 simp
theorem compact_nil {α : Type} [Inhabited α] [DecidableEq α] : Lib.compact ([] : List α) = [] := rfl
theorem tlC_mem {α : Type} [DecidableEq α] {s : α} : ∀ {p : α} {l : List α}, s ∈ p :: tlC p l ↔ s ∈ p :: l
 | p, [] => Iff.rfl
 | p, y :: l => by
  have ih := tlC_mem (s := s) (p := y) (l := l)
  rw [tlC]
  by_cases h : y = p
  ·subst h
   rw [if_pos rfl, ih]
   simp
  ·rw [if_neg h, List.mem_cons, ih, List.mem_cons (b := p)]
theorem compact_mem {α : Type} [Inhabited α] [DecidableEq α] {s : α} : ∀ {l : List α}, s ∈ Lib.compact l ↔ s ∈ l
 | [] => by rw [compact_nil]
 | p :: l => by rw [compact_cons, tlC_mem]
theorem compact_len {α : Type} [Inhabited α] [DecidableEq α] (l : List α) : (Lib.compact l).length ≤ l.length := by
 have : ∀ (l : List α) (p : α), (tlC p l).length ≤ l.length := by
  intro l
  induction l with
  | nil => intro p; exact Nat.le_refl _
  | cons y l ih =>
   intro p
   rw [tlC]
   have := ih y
   split <;> (simp only [List.length_cons]; omega)
 cases l with
 | nil => exact Nat.le_refl _
 | cons x l => rw [compact_cons]; have := this l x; simp only [List.length_cons]; omega
theorem bl_not {a b : List UInt8} : (decide (a ≤ b)) = !Op.bytesLess b a := by
 rw [bytesLess_eq]
 by_cases h : b < a
 ·rw [decide_eq_true h, decide_eq_false (fun h2 => h2 h)]; rfl
 ·rw [decide_eq_false h, decide_eq_true (show a ≤ b from h)]; rfl
theorem bl_le {a b : List UInt8} (h : Op.bytesLess b a = false) : a = b ∨ Op.bytesLess a b = true := by
 by_cases e : a = b
 ·exact .inl e
 ·exact .inr (bytes_tri h (by simpa using fun h2 => e h2.symm))
theorem tlC_lt : ∀ {p : List UInt8} {l : List (List UInt8)}, (p :: l).Pairwise (fun a b => Op.bytesLess b a = false) → (p :: tlC p l).Pairwise fun a b => Op.bytesLess a b = true
 | p, [], _ => by rw [tlC]; exact List.pairwise_singleton _ _
 | p, y :: l, h => by
  rw [List.pairwise_cons] at h
  have ih := tlC_lt h.2
  rw [tlC]
  by_cases e : y = p
  ·subst e
   rw [if_pos rfl]
   exact ih
  ·rw [if_neg e]
   refine List.pairwise_cons.2 ⟨fun z hz => ?_, ih⟩
   have hpy : Op.bytesLess p y = true := (bl_le (h.1 y (by simp))).resolve_left fun h2 => e h2.symm
   rcases List.mem_cons.1 hz with rfl | hz
   ·exact hpy
   ·exact bl_trans hpy ((List.pairwise_cons.1 ih).1 z hz)
def srt8 (l : List (List UInt8)) : List (List UInt8) := l.mergeSort fun x y => decide (x ≤ y)
theorem srt8_sorted (l : List (List UInt8)) : (srt8 l).Pairwise fun a b => Op.bytesLess b a = false := by
 have hs := List.pairwise_mergeSort (le := fun a b : List UInt8 => decide (a ≤ b)) (fun x y z h k => by
  rw [bl_not] at h k ⊢
  have h : Op.bytesLess y x = false := by simpa using h
  have k : Op.bytesLess z y = false := by simpa using k
  rcases bl_le h with rfl | h
  ·rw [k]; rfl
  rcases bl_le k with rfl | k
  ·rename_i h2
   rw [show Op.bytesLess y x = false by assumption]; rfl
  ·have h3 := bl_trans h k
   cases h4 : Op.bytesLess z x with
   | false => rfl
   | true =>
    have := bl_trans h3 h4
    rw [bl_irrefl] at this
    cases this) (fun x y => by
  rw [bl_not, bl_not]
  cases h : Op.bytesLess y x with
  | false => rfl
  | true =>
   cases k : Op.bytesLess x y with
   | false => rfl
   | true =>
    have := bl_trans h k
    rw [bl_irrefl] at this
    cases this) l
 refine hs.imp fun {a b} h => ?_
 rw [bl_not] at h
 simpa using h
def sortS (l : List ByteArray) : List ByteArray := (srt8 (l.map l8)).map b8
def nameS (l : List ByteArray) : List ByteArray := (Lib.compact (srt8 (l.map l8))).map b8
theorem sortS_len (l : List ByteArray) : (sortS l).length = l.length := by
 unfold sortS srt8
 rw [List.length_map, List.length_mergeSort, List.length_map]
theorem sortS_8 (l : List ByteArray) : (sortS l).map l8 = srt8 (l.map l8) := by
 unfold sortS
 rw [List.map_map]
 exact List.map_id _
theorem nameS_eq (l : List ByteArray) : nameS l = (Lib.compact ((sortS l).map l8)).map b8 := by rw [sortS_8]; rfl
theorem nameS_mem {l : List ByteArray} {s : ByteArray} : s ∈ nameS l ↔ s ∈ l := by
 unfold nameS
 rw [List.mem_map]
 constructor
 ·rintro ⟨x, hx, rfl⟩
  rw [compact_mem] at hx
  obtain ⟨y, hy, rfl⟩ := List.mem_map.1 ((List.mergeSort_perm _ _).mem_iff.1 hx)
  exact hy
 ·intro h
  refine ⟨l8 s, compact_mem.2 ((List.mergeSort_perm _ _).mem_iff.2 (List.mem_map.2 ⟨s, h, rfl⟩)), rfl⟩
theorem nameS_lt (l : List ByteArray) : (nameS l).Pairwise klt := by
 unfold nameS
 rw [List.pairwise_map]
 have h := srt8_sorted (l.map l8)
 generalize srt8 (l.map l8) = r at *
 cases r with
 | nil => rw [compact_nil]; exact .nil
 | cons x r =>
  rw [compact_cons]
  refine (tlC_lt h).imp fun {a b} h => ?_
  unfold klt
  rw [ByteArray.toList_eq, ByteArray.toList_eq]
  exact h
theorem nameS_nd (l : List ByteArray) : (nameS l).Nodup := (nameS_lt l).imp fun {a b} h e => by
 subst e
 unfold klt at h
 rw [bl_irrefl] at h
 cases h
theorem nameS_len (l : List ByteArray) : (nameS l).length ≤ l.length := by
 have := compact_len (srt8 (l.map l8))
 unfold nameS
 rw [List.length_map]
 refine Nat.le_trans this ?_
 unfold srt8
 rw [List.length_mergeSort, List.length_map]
 exact Nat.le_refl _
theorem nameS_nil : nameS [] = [] := by unfold nameS srt8; simp [compact_nil]
end Go.Proofs.YtgidajjjpeboeaaGreatDoor
namespace Go.Proofs.YtgidajjjpeboeaaGreatDoor
set_option maxRecDepth 100000
def b_tree_Clone : ACode :=
 .seq (gQ [gP 1 0, ⟨gO, .alloc 2 gZ⟩]) (.seq (gQ [gF 5 4 1, gL 6 5, gC 7 70 [.s 6], gF 8 5 1, gL 9 8, gC 10 71 [.s 9], gF 11 4 1, gT 1 11 7, gF 12 5 1, gT 1 12 10]) (.seq (.seq (gQ [gF 13 4 1, gL 14 13, gH 15 false 14, gJ 16 0]) (.block 0 (.loop (.seq (gQ [gV 17 .lss 16 15]) (.seq (.cond (.s 17) .skip (.exit 0)) (.seq (.block 1 (.seq (gQ [gM 18 16, gM 3 18]) (.reg [gF 19 4 1, gL 20 19, gM 21 3, gF 22 4 1, gL 23 22, gM 24 3, gE 25 6 23 24, gA 26 6 25, gC 27 38 [.s 26], gE 28 6 20 21, gT 6 28 27]))) (.reg [gU 29 .add 16 1, gM 16 29]))))))) (.seq (.seq (gQ [gF 30 5 1, gL 31 30, gH 32 false 31, gJ 33 0]) (.block 2 (.loop (.seq (gQ [gV 34 .lss 33 32]) (.seq (.cond (.s 34) .skip (.exit 2)) (.seq (.block 3 (.seq (gQ [gM 35 33, gM 4 35]) (.reg [gF 36 5 1, gL 37 36, gM 38 4, gF 39 5 1, gL 40 39, gM 41 4, gE 42 7 40 41, gF 43 1 42, gA 44 6 43, gC 45 38 [.s 44], gE 46 7 37 38, gF 47 1 46, gT 6 47 45]))) (.reg [gU 48 .add 33 1, gM 33 48]))))))) (.seq (gQ [gA 49 6 1, gT 6 2 49]) .ret))))
def a_tree_Clone : AFn := ⟨1, 50, b_tree_Clone, [.cell 2 6 true]⟩
theorem a_tree_Clone_ok : fnAF Tryz.prog [64, 62] Tryz.f38 = some a_tree_Clone := by kernel_rfl
theorem a_tree_Clone_cb : callable Tryz.prog 38 = true := by kernel_rfl
def b_tree_Map : ACode :=
 .seq (gQ [⟨gO, .alloc 2 gZ⟩]) (.seq (gQ [⟨gO, .build 8 gZ [(0, 1, gI 5)]⟩, ⟨gO, .alloc 3 gZ⟩, gT 6 3 8]) (.seq (.seq (gQ [gM 9 0, gH 10 false 9, gJ 11 0]) (.block 0 (.loop (.seq (gQ [gV 12 .lss 11 10]) (.seq (.cond (.s 12) .skip (.exit 0)) (.seq (.block 1 (.seq (gQ [gE 13 7 9 11, gA 14 7 13, ⟨gO, .alloc 5 [.str ⟨#[]⟩, .int .i64 0, .bool false, .int .i64 0, .str ⟨#[]⟩, .lst .nil 6 [], .lst .nil 7 []]⟩, gT 7 5 14]) (.seq (gQ [gF 16 5 3, gL 17 16, gF 18 0 5, gL 19 18, ⟨gO, .callr (some 20) (.k (.fn 62 [])) [.s 17, .s 19, .k (.fn 63 [])]⟩, gM 15 20, gX 21 0 15, gX 22 1 15, gM 6 21, gM 7 22]) (.seq (.seq (gQ [gM 23 7]) (.cond (.s 23) (.seq (gQ [gF 24 5 3, gL 25 24, gM 26 6, gF 27 1 5, gA 28 6 27, gC 29 38 [.s 28], gE 30 7 25 26, gF 31 1 30, gT 6 31 29]) (.exit 1)) .skip)) (.reg [gF 32 5 3, gL 33 32, gM 34 6, gF 35 0 5, gL 36 35, gF 37 1 5, gA 38 6 37, gC 39 38 [.s 38], ⟨gO, .build 40 [.str ⟨#[]⟩, .int .i64 0, .bool false, .int .i64 0, .str ⟨#[]⟩, .lst .nil 6 [], .lst .nil 7 []] [(0, 1, .s 36), (1, 6, .s 39)]⟩, ⟨gO, .bsl 41 1 7 [.str ⟨#[]⟩, .int .i64 0, .bool false, .int .i64 0, .str ⟨#[]⟩, .lst .nil 6 [], .lst .nil 7 []] [(0, 7, .s 40)]⟩, ⟨gO, .callr (some 42) (.k (.fn 64 [])) [.s 33, .s 34, .s 41]⟩, gF 43 5 3, gT 1 43 42]))))) (.reg [gU 44 .add 11 1, gM 11 44]))))))) (.seq (gQ [gA 45 6 3, gT 6 2 45]) .ret)))
def a_tree_Map : AFn := ⟨1, 46, b_tree_Map, [.cell 2 6 true]⟩
theorem a_tree_Map_ok : fnAF Tryz.prog [64, 62] Tryz.f27 = some a_tree_Map := by kernel_rfl
theorem a_tree_Map_cb : callable Tryz.prog 27 = true := by kernel_rfl
theorem a_slices_Clone_Value_cb : callable Tryz.prog 70 = true := by kernel_rfl
theorem a_slices_Clone_Pair_cb : callable Tryz.prog 71 = true := by kernel_rfl
end Go.Proofs.YtgidajjjpeboeaaGreatDoor
namespace Go.Proofs.YtgidajjjpeboeaaGreatDoor
open Go.RowKit
theorem lst_cells {σ : Sg} {v : Value} {t : Tag} {esz : Nat} {l : List (List AV)} (h : Rel1 σ v (.lst t esz l)) : ∃ (A : Option Addr) (cap b o : Nat) (news : List Value), v = .slice A l.length cap ∧ l.length ≤ cap ∧ (0 < l.length → A = some ⟨b, o, none⟩) ∧ (∀ c ∈ l, c.length = esz) ∧
  news.length = l.length * esz ∧ RelL σ news l.flatten ∧ ∀ (q : Nat) u, news[q]? = some u → σ b (o + q) = some u := by
 cases h with
 | lst t esz l A n cap b o f hn hlen hA hsz hσ hr ht =>
  subst hn
  have hsz' : ∀ c ∈ l, c.length = esz := fun c hc => by
   obtain ⟨i, hi⟩ := List.getElem?_of_mem hc
   exact hsz i c hi
  have hfl : ∀ l : List (List AV), (∀ c ∈ l, c.length = esz) → l.flatten.length = l.length * esz := by
   intro l
   induction l with
   | nil => intro _; simp
   | cons x l ih => intro hx; rw [List.flatten_cons, List.length_append, List.length_cons, ih fun c hc => hx c (by simp [hc]), hx x (by simp), Nat.add_mul]; omega
  have hat : ∀ (l : List (List AV)) (i j : Nat) (c : List AV) (a : AV), (∀ c ∈ l, c.length = esz) → l[i]? = some c → c[j]? = some a → l.flatten[i * esz + j]? = some a := by
   intro l
   induction l with
   | nil => intro i j c a _ h; simp at h
   | cons y l ih =>
    intro i j c a hx hc ha
    have hy := hx y (by simp)
    rw [List.flatten_cons]
    cases i with
    | zero =>
     simp at hc
     subst hc
     rw [Nat.zero_mul, Nat.zero_add, List.getElem?_append_left (List.getElem?_eq_some_iff.1 ha).1]
     exact ha
    | succ i =>
     rw [List.getElem?_append_right (by rw [hy, Nat.add_mul]; omega), hy, show (i + 1) * esz + j - esz = i * esz + j by rw [Nat.add_mul]; omega]
     exact ih i j c a (fun c hc => hx c (by simp [hc])) (by simpa using hc) ha
  refine ⟨A, cap, b, o, flatV l.length esz f, rfl, hlen, hA, hsz', flatV_len _ _ _, ⟨by rw [flatV_len, hfl l hsz'], fun q v a hv ha => ?_⟩, fun q u hu => flatV_cells hσ q u hu⟩
  have hq : q < l.length * esz := by have := (List.getElem?_eq_some_iff.1 hv).1; rwa [flatV_len] at this
  have he : 0 < esz := by
   rcases Nat.eq_zero_or_pos esz with h | h
   ·subst h; omega
   ·exact h
  rw [flatV_at f hq] at hv
  cases hv
  have h1 : q / esz < l.length := Nat.div_lt_of_lt_mul (by rw [Nat.mul_comm]; exact hq)
  have h2 : l[q / esz]? = some l[q / esz] := List.getElem?_eq_getElem h1
  have h3 : q % esz < (l[q / esz]).length := by rw [hsz _ _ h2]; exact Nat.mod_lt _ he
  have h4 := List.getElem?_eq_getElem h3
  have h5 := hat l _ _ _ _ hsz' h2 h4
  have e : q / esz * esz + q % esz = q := by
   have := Nat.div_add_mod q esz
   rw [Nat.mul_comm] at this
   exact this
  rw [e, ha] at h5
  cases h5
  exact hr _ _ _ _ h2 h4
end Go.Proofs.YtgidajjjpeboeaaGreatDoor
namespace Go.Proofs.YtgidajjjpeboeaaGreatDoor
set_option maxRecDepth 100000
def b_tree_Int : ACode :=
 .seq (gQ [⟨gO, .alloc 2 gZ⟩]) (.seq (gQ [gM 3 0, ⟨gO, .build 4 gZ [(0, 1, gI 2), (2, 1, .s 3)]⟩, gT 6 2 4]) .ret)
def a_tree_Int : AFn := ⟨1, 5, b_tree_Int, [.cell 2 6 true]⟩
theorem a_tree_Int_ok : fnAF Tryz.prog [] Tryz.f139 = some a_tree_Int := by kernel_rfl
theorem a_tree_Int_cb : callable Tryz.prog 139 = true := by kernel_rfl
def b_tree_Get : ACode :=
 .seq (gQ [gP 2 0, ⟨gO, .alloc 4 gZ⟩, ⟨gO, .mov 5 (.k (.bool false))⟩]) (.seq (.seq (gQ [gF 8 0 2, gL 9 8, gU 10 .neq 9 5]) (.cond (.s 10) (.seq (gQ [⟨gO, .build 11 gZ []⟩, gT 6 4 11, ⟨gO, .mov 5 (.k (.bool false))⟩]) .ret) .skip)) (.seq (gQ [gF 13 5 2, gL 14 13, gM 15 1, ⟨gO, .call (some 16) (.k (.fn 62 [])) [.s 14, .s 15, .k (.fn 63 [])]⟩, gM 12 16, gX 17 0 12, gX 18 1 12, gM 6 17, gM 7 18]) (.seq (.seq (gQ [gM 19 7, ⟨gO, .un 20 .not (.s 19)⟩]) (.cond (.s 20) (.seq (gQ [⟨gO, .build 21 gZ []⟩, gT 6 4 21, ⟨gO, .mov 5 (.k (.bool false))⟩]) .ret) .skip)) (.seq (gQ [gF 22 5 2, gL 23 22, gM 24 6, gE 25 7 23 24, gF 26 1 25, gA 27 6 26, gC 28 38 [.s 27], gT 6 4 28, ⟨gO, .mov 5 (.k (.bool true))⟩]) .ret))))
def a_tree_Get : AFn := ⟨2, 29, b_tree_Get, [.cell 4 6 true, .tmp 5]⟩
theorem a_tree_Get_ok : fnAF Tryz.prog [] Tryz.f84 = some a_tree_Get := by kernel_rfl
theorem a_tree_Get_cb : callable Tryz.prog 84 = true := by kernel_rfl
def b_tree_byKey : ACode :=
 .seq (gQ [gP 2 0, gJ 4 0]) (.seq (gQ [gF 5 0 2, gL 6 5, gM 7 1, gC 8 103 [.s 6, .s 7], gM 4 8]) .ret)
def a_tree_byKey : AFn := ⟨2, 9, b_tree_byKey, [.tmp 4]⟩
theorem a_tree_byKey_ok : fnAF Tryz.prog [] Tryz.f63 = some a_tree_byKey := by kernel_rfl
theorem a_tree_byKey_cb : callable Tryz.prog 63 = true := by kernel_rfl
def b_slices_BinarySearchFunc_string : ACode :=
 .seq (gQ [gJ 6 0, ⟨gO, .mov 7 (.k (.bool false))⟩]) (.seq (gQ [gM 12 0, gH 13 false 12, gM 8 13]) (.seq (gQ [gM 14 8, gJ 9 0, gM 10 14]) (.seq (.block 0 (.loop (.seq (.seq (gQ [gM 15 9, gM 16 10, gV 17 .lss 15 16]) (.cond (.s 17) .skip (.exit 0))) (.block 1 (.seq (gQ [gM 18 9, gM 19 10, gV 20 .add 18 19, ⟨gO, .conv 21 .u64 (.s 20)⟩, ⟨gO, gB 22 .shr (.s 21) (.k (.int .u64 1))⟩, ⟨gO, .conv 23 .i64 (.s 22)⟩, gM 11 23]) (.seq (gQ [gM 24 2, gM 25 0, gM 26 11, gE 27 7 25 26, gA 28 7 27, gM 29 1, ⟨gO, .call (some 30) (.s 24) [.s 28, .s 29]⟩, gU 31 .lss 30 0]) (.cond (.s 31) (.reg [gM 32 11, gU 33 .add 32 1, gM 9 33]) (.reg [gM 34 11, gM 10 34])))))))) (.seq (gQ [gM 35 9, gM 36 9, gM 37 8, gV 38 .lss 36 37, gM 39 38, gN 39 true 40 2, gN 39 true 41 0, gN 39 true 42 9, ⟨some (39, true), .idx 43 7 (.s 41) (.s 42)⟩, ⟨some (39, true), .ld 44 7 true (.s 43)⟩, gN 39 true 45 1, ⟨some (39, true), .call (some 46) (.s 40) [.s 44, .s 45]⟩, ⟨some (39, true), .bin 47 .eql false (.s 46) (gI 0)⟩, ⟨gO, .pick 48 (.s 39) (.s 47) (.k (.bool false))⟩, gM 6 35, gM 7 48]) .ret))))
def a_slices_BinarySearchFunc_string : AFn := ⟨3, 49, b_slices_BinarySearchFunc_string, [.tmp 6, .tmp 7]⟩
theorem a_slices_BinarySearchFunc_string_ok : fnAF Tryz.prog [] Tryz.f62 = some a_slices_BinarySearchFunc_string := by kernel_rfl
theorem a_slices_BinarySearchFunc_string_cb : callable Tryz.prog 62 = true := by kernel_rfl
def b_strings_Compare : ACode :=
 .seq (gQ [gJ 4 0]) (.seq (gQ [gM 5 0, gM 6 1, gC 7 162 [.s 5, .s 6], gM 4 7]) .ret)
def a_strings_Compare : AFn := ⟨2, 8, b_strings_Compare, [.tmp 4]⟩
theorem a_strings_Compare_ok : fnAF Tryz.prog [] Tryz.f103 = some a_strings_Compare := by kernel_rfl
theorem a_strings_Compare_cb : callable Tryz.prog 103 = true := by kernel_rfl
end Go.Proofs.YtgidajjjpeboeaaGreatDoor
namespace Go.Proofs.YtgidajjjpeboeaaGreatDoor
open Go.RowKit
def getAV : Option V → AV
 | none => .tup [.agg (cellsV V.null), .bool false]
 | some x => .tup [(vA (x)), .bool true]
def nullAV : AV := .tup [.agg [.int .i64 0, .bool false, .int .i64 0, .str ⟨#[]⟩, .lst .any 6 [], .lst .any 7 []], .bool false]
theorem mfind_size {v x : V} {key : ByteArray} (h : mfind key v.m = some x) : x.size < v.size := V.mem_size (mem_of_mfind h)
end Go.Proofs.YtgidajjjpeboeaaGreatDoor
