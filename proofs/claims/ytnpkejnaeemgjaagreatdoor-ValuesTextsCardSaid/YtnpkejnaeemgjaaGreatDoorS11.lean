/-
  The texts that the claim wants, one behind the other: part 11.
-/
import Derived.Test.YtnpkejnaeemgjaaGreatDoorS10
import Derived.ProofKit
import Derived.SizedLaws
import Derived.Deep.Slices
import Derived.Test.YtnpkejnaeemgjaaGreatDoorChecked
import Derived.KernelRfl
set_option linter.unusedSimpArgs false
set_option linter.unusedVariables false
namespace Go.Proofs.YtnpkejnaeemgjaaGreatDoor
open Go.ChangeShapes Go.WideShapes Go.ChangeAt Go.RowKit Go.Deep
section
variable {H : Type} {enc : TypeId × Value → H} {P : Program}
theorem trodAll_below (hl : laidOutB P = true) {W W' : World} (hb : Below W.heap.size W W') : ∀ (ts : List TypeId) (vs : List Value) (ds : List (DataW H)) (p : List MemPlace),
  (∀ t ∈ ts, P.readableRec t = true ∧ t < P.types.size) → DataW.TrodAll enc P W 0 (fun _ => true) true ts vs ds p → (∀ x ∈ p, x.block < W.heap.size) →
  DataW.TrodAll enc P W' 0 (fun b => decide (b < W.heap.size)) true ts vs ds p
 | [], vs, ds, p, _, h, _ => by
  obtain ⟨rfl, rfl, rfl⟩ := trodAll_nil h
  exact rfl
 | t :: ts, vs, ds, p, ht, h, hlt => by
  obtain ⟨v, vs', d, ds', p', q, rfl, rfl, rfl, h1, h2⟩ := trodAll_cons h
  exact ⟨p', q, Below.trod hl (ht t (by simp)).1 (ht t (by simp)).2 h1 hb (fun x hx => hlt x (by simp [hx])),
   trodAll_below hl hb ts vs' ds' q (fun t' h' => ht t' (by simp [h'])) h2 (fun x hx => hlt x (by simp [hx])), rfl⟩
theorem law_post {f : Func} {s : ChangeSpec} {tb : TypeId} (hl : laidOutB P = true) (hr : (f.params.toList.all fun t => P.readableRec t && decide (t < P.types.size)) = true) (hres : f.resultTypes = #[tb]) (hB : P.underlying tb = some .bool)
  (hv : s.vars = []) {W W' : World} {args : Array Value} {ds gs : List (DataW H)} {before : List MemPlace} (hW : DataW.Whole enc P f.params.toList s.vars false W args.toList ds gs before)
  (hs : s.fn H (ds ++ []) = { results := [.lit (.bool true)], args := ds }) (hb : Below W.heap.size W W') : s.post enc P f false true false false W args (.bool true) W' := by
 have hW' := hW
 obtain ⟨p, q, hA, hV, rfl, hfz, hnd⟩ := hW
 rw [hv] at hV
 obtain ⟨rfl, rfl⟩ := trodVars_none hV
 have e := hs
 have hlt : ∀ x ∈ p, x.block < W.heap.size := fun x hx => hW'.lt x (by simp [hx])
 refine ⟨ds, [], p ++ [], [], p, [], hW', ?_, ?_, ?_, hb.frame _, fun h => by cases h⟩
 ·rw [e, hres]; exact trodAll_mk1 (shut_bool hB _)
 ·rw [e]
  exact trodAll_below hl hb _ _ _ _ (fun t ht => by
   have := List.all_eq_true.1 hr t ht
   simpa using this) hA hlt
 ·rw [e, hv]; exact rfl
end
theorem list6 {α : Type} {l : List α} (h : l.length = 6) : ∃ a b c d e f, l = [a, b, c, d, e, f] := by
 rcases l with _ | ⟨a, _ | ⟨b, _ | ⟨c, _ | ⟨d, _ | ⟨e, _ | ⟨f, _ | ⟨g, l⟩⟩⟩⟩⟩⟩⟩ <;> simp at h
 exact ⟨a, b, c, d, e, f, rfl⟩
theorem list7 {α : Type} {l : List α} (h : l.length = 7) : ∃ a b c d e f g, l = [a, b, c, d, e, f, g] := by
 rcases l with _ | ⟨a, l⟩
 ·simp at h
 ·obtain ⟨b, c, d, e, f, g, rfl⟩ := list6 (l := l) (by simpa using h)
  exact ⟨a, b, c, d, e, f, g, rfl⟩
section
variable {H : Type} {enc : TypeId × Value → H} {P : Program}
end
end Go.Proofs.YtnpkejnaeemgjaaGreatDoor
namespace Go.Proofs.YtnpkejnaeemgjaaGreatDoor
set_option maxRecDepth 100000
def b_tree_Clone : ACode :=
 .seq (gQ [gP 1 0, ⟨gO, .alloc 2 gZ⟩]) (.seq (gQ [gF 5 4 1, gL 6 5, gC 7 98 [.s 6], gF 8 5 1, gL 9 8, gC 10 99 [.s 9], gF 11 4 1, gT 1 11 7, gF 12 5 1, gT 1 12 10]) (.seq (.seq (gQ [gF 13 4 1, gL 14 13, gH 15 false 14, gJ 16 0]) (.block 0 (.loop (.seq (gQ [gV 17 .lss 16 15]) (.seq (.cond (.s 17) .skip (.exit 0)) (.seq (.block 1 (.seq (gQ [gM 18 16, gM 3 18]) (.reg [gF 19 4 1, gL 20 19, gM 21 3, gF 22 4 1, gL 23 22, gM 24 3, gE 25 6 23 24, gA 26 6 25, gC 27 59 [.s 26], gE 28 6 20 21, gT 6 28 27]))) (.reg [gU 29 .add 16 1, gM 16 29]))))))) (.seq (.seq (gQ [gF 30 5 1, gL 31 30, gH 32 false 31, gJ 33 0]) (.block 2 (.loop (.seq (gQ [gV 34 .lss 33 32]) (.seq (.cond (.s 34) .skip (.exit 2)) (.seq (.block 3 (.seq (gQ [gM 35 33, gM 4 35]) (.reg [gF 36 5 1, gL 37 36, gM 38 4, gF 39 5 1, gL 40 39, gM 41 4, gE 42 7 40 41, gF 43 1 42, gA 44 6 43, gC 45 59 [.s 44], gE 46 7 37 38, gF 47 1 46, gT 6 47 45]))) (.reg [gU 48 .add 33 1, gM 33 48]))))))) (.seq (gQ [gA 49 6 1, gT 6 2 49]) .ret))))
def a_tree_Clone : AFn := ⟨1, 50, b_tree_Clone, [.cell 2 6 true]⟩
theorem a_tree_Clone_ok : fnAF Tryz.prog [60, 57] Tryz.f59 = some a_tree_Clone := by kernel_rfl
theorem a_tree_Clone_cb : callable Tryz.prog 59 = true := by kernel_rfl
def b_tree_Map : ACode :=
 .seq (gQ [⟨gO, .alloc 2 gZ⟩]) (.seq (gQ [⟨gO, .build 8 gZ [(0, 1, gI 5)]⟩, ⟨gO, .alloc 3 gZ⟩, gT 6 3 8]) (.seq (.seq (gQ [gM 9 0, gH 10 false 9, gJ 11 0]) (.block 0 (.loop (.seq (gQ [gV 12 .lss 11 10]) (.seq (.cond (.s 12) .skip (.exit 0)) (.seq (.block 1 (.seq (gQ [gE 13 7 9 11, gA 14 7 13, ⟨gO, .alloc 5 [.str ⟨#[]⟩, .int .i64 0, .bool false, .int .i64 0, .str ⟨#[]⟩, .lst .nil 6 [], .lst .nil 7 []]⟩, gT 7 5 14]) (.seq (gQ [gF 16 5 3, gL 17 16, gF 18 0 5, gL 19 18, ⟨gO, .callr (some 20) (.k (.fn 57 [])) [.s 17, .s 19, .k (.fn 58 [])]⟩, gM 15 20, gX 21 0 15, gX 22 1 15, gM 6 21, gM 7 22]) (.seq (.seq (gQ [gM 23 7]) (.cond (.s 23) (.seq (gQ [gF 24 5 3, gL 25 24, gM 26 6, gF 27 1 5, gA 28 6 27, gC 29 59 [.s 28], gE 30 7 25 26, gF 31 1 30, gT 6 31 29]) (.exit 1)) .skip)) (.reg [gF 32 5 3, gL 33 32, gM 34 6, gF 35 0 5, gL 36 35, gF 37 1 5, gA 38 6 37, gC 39 59 [.s 38], ⟨gO, .build 40 [.str ⟨#[]⟩, .int .i64 0, .bool false, .int .i64 0, .str ⟨#[]⟩, .lst .nil 6 [], .lst .nil 7 []] [(0, 1, .s 36), (1, 6, .s 39)]⟩, ⟨gO, .bsl 41 1 7 [.str ⟨#[]⟩, .int .i64 0, .bool false, .int .i64 0, .str ⟨#[]⟩, .lst .nil 6 [], .lst .nil 7 []] [(0, 7, .s 40)]⟩, ⟨gO, .callr (some 42) (.k (.fn 60 [])) [.s 33, .s 34, .s 41]⟩, gF 43 5 3, gT 1 43 42]))))) (.reg [gU 44 .add 11 1, gM 11 44]))))))) (.seq (gQ [gA 45 6 3, gT 6 2 45]) .ret)))
def a_tree_Map : AFn := ⟨1, 46, b_tree_Map, [.cell 2 6 true]⟩
theorem a_tree_Map_ok : fnAF Tryz.prog [60, 57] Tryz.f22 = some a_tree_Map := by kernel_rfl
theorem a_tree_Map_cb : callable Tryz.prog 22 = true := by kernel_rfl
theorem a_slices_Clone_Value_cb : callable Tryz.prog 98 = true := by kernel_rfl
theorem a_slices_Clone_Pair_cb : callable Tryz.prog 99 = true := by kernel_rfl
end Go.Proofs.YtnpkejnaeemgjaaGreatDoor
namespace Go.Proofs.YtnpkejnaeemgjaaGreatDoor
open Go.RowKit
mutual
def cellsV : V → List AV
 | .mk k b n s l m => [.int .i64 k, .bool b, .int .i64 n, .str s, .lst .any 6 (rowsV l), .lst .any 7 (rowsM m)]
def rowsV : List V → List (List AV)
 | [] => []
 | x :: l => cellsV x :: rowsV l
def rowsM : List (ByteArray × V) → List (List AV)
 | [] => []
 | (y, x) :: m => (.str y :: cellsV x) :: rowsM m
end
abbrev vC (v : V) : List AV := [.int .i64 v.kind, .bool v.b, .int .i64 v.n, .str v.s, .lst .any 6 (rowsV v.l), .lst .any 7 (rowsM v.m)]
abbrev vA (v : V) : AV := .agg (vC v)
theorem cellsV_eq (v : V) : cellsV v = [.int .i64 v.kind, .bool v.b, .int .i64 v.n, .str v.s, .lst .any 6 (rowsV v.l), .lst .any 7 (rowsM v.m)] := by cases v; rfl
theorem rowsV_len (l : List V) : (rowsV l).length = l.length := by
 induction l with
 | nil => rfl
 | cons x l ih => simp [rowsV, ih]
theorem rowsM_len (l : List (ByteArray × V)) : (rowsM l).length = l.length := by
 induction l with
 | nil => rfl
 | cons x l ih => obtain ⟨y, x⟩ := x; simp [rowsM, ih]
theorem rowsV_at : ∀ {l : List V} {k : Nat} {x : V}, l[k]? = some x → (rowsV l)[k]? = some [.int .i64 x.kind, .bool x.b, .int .i64 x.n, .str x.s, .lst .any 6 (rowsV x.l), .lst .any 7 (rowsM x.m)]
 | y :: l, 0, x, h => by simp at h; subst h; rw [← cellsV_eq]; rfl
 | y :: l, k + 1, x, h => by simpa [rowsV] using rowsV_at (l := l) (k := k) (by simpa using h)
theorem rowsM_at : ∀ {l : List (ByteArray × V)} {k : Nat} {y : ByteArray} {x : V}, l[k]? = some (y, x) → (rowsM l)[k]? = some [.str y, .int .i64 x.kind, .bool x.b, .int .i64 x.n, .str x.s, .lst .any 6 (rowsV x.l), .lst .any 7 (rowsM x.m)]
 | (z, y) :: l, 0, w, x, h => by simp at h; obtain ⟨rfl, rfl⟩ := h; rw [rowsM, cellsV_eq]; rfl
 | (z, y) :: l, k + 1, w, x, h => by simpa [rowsM] using rowsM_at (l := l) (k := k) (by simpa using h)
theorem wrap_in {n : Int} (h0 : -9223372036854775808 ≤ n) (h1 : n ≤ 9223372036854775807) : IntKind.i64.wrap n = n := by
 have := IntWalk.i64_in n (by omega)
 exact this
theorem lst_cells {σ : Sg} {v : Value} {t : Tag} {esz : Nat} {l : List (List AV)} (h : Rel1 σ v (.lst t esz l)) : ∃ (A : Option Addr) (cap b o : Nat) (news : List Value), v = .slice A l.length cap ∧ l.length ≤ cap ∧ (0 < l.length → A = some ⟨b, o, none⟩) ∧ (∀ c ∈ l, c.length = esz) ∧
  news.length = l.length * esz ∧ RelL σ news l.flatten ∧ ∀ (q : Nat) u, news[q]? = some u → σ b (o + q) = some u := by
 cases h with
 | lst t esz l A n cap b o f hn hlen hA hsz hσ hr ht =>
  subst hn
  have hsz' : ∀ c ∈ l, c.length = esz := fun c hc => by
   obtain ⟨i, hi⟩ := List.getElem?_of_mem hc
   exact hsz i c hi
  have hfl : ∀ l : List (List AV), (∀ c ∈ l, c.length = esz) → l.flatten.length = l.length * esz := by
   intro l
   induction l with
   | nil => intro _; simp
   | cons x l ih => intro hx; rw [List.flatten_cons, List.length_append, List.length_cons, ih fun c hc => hx c (by simp [hc]), hx x (by simp), Nat.add_mul]; omega
  have hat : ∀ (l : List (List AV)) (i j : Nat) (c : List AV) (a : AV), (∀ c ∈ l, c.length = esz) → l[i]? = some c → c[j]? = some a → l.flatten[i * esz + j]? = some a := by
   intro l
   induction l with
   | nil => intro i j c a _ h; simp at h
   | cons y l ih =>
    intro i j c a hx hc ha
    have hy := hx y (by simp)
    rw [List.flatten_cons]
    cases i with
    | zero =>
     simp at hc
     subst hc
     rw [Nat.zero_mul, Nat.zero_add, List.getElem?_append_left (List.getElem?_eq_some_iff.1 ha).1]
     exact ha
    | succ i =>
     rw [List.getElem?_append_right (by rw [hy, Nat.add_mul]; omega), hy, show (i + 1) * esz + j - esz = i * esz + j by rw [Nat.add_mul]; omega]
     exact ih i j c a (fun c hc => hx c (by simp [hc])) (by simpa using hc) ha
  refine ⟨A, cap, b, o, flatV l.length esz f, rfl, hlen, hA, hsz', flatV_len _ _ _, ⟨by rw [flatV_len, hfl l hsz'], fun q v a hv ha => ?_⟩, fun q u hu => flatV_cells hσ q u hu⟩
  have hq : q < l.length * esz := by have := (List.getElem?_eq_some_iff.1 hv).1; rwa [flatV_len] at this
  have he : 0 < esz := by
   rcases Nat.eq_zero_or_pos esz with h | h
   ·subst h; omega
   ·exact h
  rw [flatV_at f hq] at hv
  cases hv
  have h1 : q / esz < l.length := Nat.div_lt_of_lt_mul (by rw [Nat.mul_comm]; exact hq)
  have h2 : l[q / esz]? = some l[q / esz] := List.getElem?_eq_getElem h1
  have h3 : q % esz < (l[q / esz]).length := by rw [hsz _ _ h2]; exact Nat.mod_lt _ he
  have h4 := List.getElem?_eq_getElem h3
  have h5 := hat l _ _ _ _ hsz' h2 h4
  have e : q / esz * esz + q % esz = q := by
   have := Nat.div_add_mod q esz
   rw [Nat.mul_comm] at this
   exact this
  rw [e, ha] at h5
  cases h5
  exact hr _ _ _ _ h2 h4
end Go.Proofs.YtnpkejnaeemgjaaGreatDoor
namespace Go.Proofs.YtnpkejnaeemgjaaGreatDoor
set_option maxRecDepth 100000
def b_tree_Int : ACode :=
 .seq (gQ [⟨gO, .alloc 2 gZ⟩]) (.seq (gQ [gM 3 0, ⟨gO, .build 4 gZ [(0, 1, gI 2), (2, 1, .s 3)]⟩, gT 6 2 4]) .ret)
def a_tree_Int : AFn := ⟨1, 5, b_tree_Int, [.cell 2 6 true]⟩
theorem a_tree_Int_ok : fnAF Tryz.prog [] Tryz.f23 = some a_tree_Int := by kernel_rfl
theorem a_tree_Int_cb : callable Tryz.prog 23 = true := by kernel_rfl
def b_tree_Get : ACode :=
 .seq (gQ [gP 2 0, ⟨gO, .alloc 4 gZ⟩, ⟨gO, .mov 5 (.k (.bool false))⟩]) (.seq (.seq (gQ [gF 8 0 2, gL 9 8, gU 10 .neq 9 5]) (.cond (.s 10) (.seq (gQ [⟨gO, .build 11 gZ []⟩, gT 6 4 11, ⟨gO, .mov 5 (.k (.bool false))⟩]) .ret) .skip)) (.seq (gQ [gF 13 5 2, gL 14 13, gM 15 1, ⟨gO, .call (some 16) (.k (.fn 57 [])) [.s 14, .s 15, .k (.fn 58 [])]⟩, gM 12 16, gX 17 0 12, gX 18 1 12, gM 6 17, gM 7 18]) (.seq (.seq (gQ [gM 19 7, ⟨gO, .un 20 .not (.s 19)⟩]) (.cond (.s 20) (.seq (gQ [⟨gO, .build 21 gZ []⟩, gT 6 4 21, ⟨gO, .mov 5 (.k (.bool false))⟩]) .ret) .skip)) (.seq (gQ [gF 22 5 2, gL 23 22, gM 24 6, gE 25 7 23 24, gF 26 1 25, gA 27 6 26, gC 28 59 [.s 27], gT 6 4 28, ⟨gO, .mov 5 (.k (.bool true))⟩]) .ret))))
def a_tree_Get : AFn := ⟨2, 29, b_tree_Get, [.cell 4 6 true, .tmp 5]⟩
theorem a_tree_Get_ok : fnAF Tryz.prog [] Tryz.f24 = some a_tree_Get := by kernel_rfl
theorem a_tree_Get_cb : callable Tryz.prog 24 = true := by kernel_rfl
def b_tree_byKey : ACode :=
 .seq (gQ [gP 2 0, gJ 4 0]) (.seq (gQ [gF 5 0 2, gL 6 5, gM 7 1, gC 8 97 [.s 6, .s 7], gM 4 8]) .ret)
def a_tree_byKey : AFn := ⟨2, 9, b_tree_byKey, [.tmp 4]⟩
theorem a_tree_byKey_ok : fnAF Tryz.prog [] Tryz.f58 = some a_tree_byKey := by kernel_rfl
theorem a_tree_byKey_cb : callable Tryz.prog 58 = true := by kernel_rfl
def b_slices_BinarySearchFunc_string : ACode :=
 .seq (gQ [gJ 6 0, ⟨gO, .mov 7 (.k (.bool false))⟩]) (.seq (gQ [gM 12 0, gH 13 false 12, gM 8 13]) (.seq (gQ [gM 14 8, gJ 9 0, gM 10 14]) (.seq (.block 0 (.loop (.seq (.seq (gQ [gM 15 9, gM 16 10, gV 17 .lss 15 16]) (.cond (.s 17) .skip (.exit 0))) (.block 1 (.seq (gQ [gM 18 9, gM 19 10, gV 20 .add 18 19, ⟨gO, .conv 21 .u64 (.s 20)⟩, ⟨gO, gB 22 .shr (.s 21) (.k (.int .u64 1))⟩, ⟨gO, .conv 23 .i64 (.s 22)⟩, gM 11 23]) (.seq (gQ [gM 24 2, gM 25 0, gM 26 11, gE 27 7 25 26, gA 28 7 27, gM 29 1, ⟨gO, .call (some 30) (.s 24) [.s 28, .s 29]⟩, gU 31 .lss 30 0]) (.cond (.s 31) (.reg [gM 32 11, gU 33 .add 32 1, gM 9 33]) (.reg [gM 34 11, gM 10 34])))))))) (.seq (gQ [gM 35 9, gM 36 9, gM 37 8, gV 38 .lss 36 37, gM 39 38, gN 39 true 40 2, gN 39 true 41 0, gN 39 true 42 9, ⟨some (39, true), .idx 43 7 (.s 41) (.s 42)⟩, ⟨some (39, true), .ld 44 7 true (.s 43)⟩, gN 39 true 45 1, ⟨some (39, true), .call (some 46) (.s 40) [.s 44, .s 45]⟩, ⟨some (39, true), .bin 47 .eql false (.s 46) (gI 0)⟩, ⟨gO, .pick 48 (.s 39) (.s 47) (.k (.bool false))⟩, gM 6 35, gM 7 48]) .ret))))
def a_slices_BinarySearchFunc_string : AFn := ⟨3, 49, b_slices_BinarySearchFunc_string, [.tmp 6, .tmp 7]⟩
theorem a_slices_BinarySearchFunc_string_ok : fnAF Tryz.prog [] Tryz.f57 = some a_slices_BinarySearchFunc_string := by kernel_rfl
theorem a_slices_BinarySearchFunc_string_cb : callable Tryz.prog 57 = true := by kernel_rfl
def b_strings_Compare : ACode :=
 .seq (gQ [gJ 4 0]) (.seq (gQ [gM 5 0, gM 6 1, gC 7 134 [.s 5, .s 6], gM 4 7]) .ret)
def a_strings_Compare : AFn := ⟨2, 8, b_strings_Compare, [.tmp 4]⟩
theorem a_strings_Compare_ok : fnAF Tryz.prog [] Tryz.f97 = some a_strings_Compare := by kernel_rfl
theorem a_strings_Compare_cb : callable Tryz.prog 97 = true := by kernel_rfl
end Go.Proofs.YtnpkejnaeemgjaaGreatDoor
namespace Go.Proofs.YtnpkejnaeemgjaaGreatDoor
open Go.RowKit
theorem mfind_size {v x : V} {key : ByteArray} (h : mfind key v.m = some x) : x.size < v.size := V.mem_size (mem_of_mfind h)
theorem fw0 : Tryz.prog.follows .mixedOrders = true := by kernel_rfl
theorem kW {p q : Prop} (h : q) (f : q → p := by intro hh; (repeat (first | apply kS | apply kB | apply kL | apply kN | refine kA fw0 ?_)); exact hh) : p := f h
theorem kQ {P : Program} {E : Env} {Q : Exit → Fr → St → Prop} {k : List AItem} {fr fr' : Fr} {st st' : St} (rs : List RS) {l : List GI} {rs' : List RS} {p : Prop} (h : AK P E Q k fr' st') (hs : arun P l rs fr st = some (rs', fr', st', p) := by rfl)
  (hp : p := by (repeat' apply And.intro) <;> first | exact kD | (intro hgd; refine ⟨?_, kG⟩; (repeat' apply And.intro) <;> exact kD)) (hm : P.follows .mixedOrders = true := by exact fw0) : AK P E Q (.c (.reg l) :: k) fr st := kR hm rs hs hp h
theorem kP {P : Program} {E : Env} {Q : Exit → Fr → St → Prop} {k : List AItem} {fr fr' : Fr} {st st' : St} (rs : List RS) {l : List GI} {rs' : List RS} {p : Prop} (hp : p) (h : AK P E Q k fr' st') (hs : arun P l rs fr st = some (rs', fr', st', p) := by rfl) (hm : P.follows .mixedOrders = true := by exact fw0) : AK P E Q (.c (.reg l) :: k) fr st := kR hm rs hs hp h
theorem kE {P : Program} {mu : List Nat} {f : FuncId} {fn : Func} {af : AFn} {args : List AV} {r : AV} (hf : P.funcs[f]? = some fn) (haf : fnAF P mu fn = some af) (hcb : callable P f = true)
  (h : ∀ E : Env, E.n = af.n → AK P E (RQ af.res r) [.c af.body] (argFr 0 args) ⟨fun _ => none, fun _ => 0⟩) (hl : Nat.ble args.length af.n = true := by rfl) : AC P f args r := AC.enter hf haf hcb hl h
theorem kC {P : Program} {E : Env} {Q : Exit → Fr → St → Prop} {k : List AItem} {fr : Fr} {st : St} {x : Opd} {t e : ACode} {b : Bool} (h1 : b = true → AK P E Q (.c t :: k) fr st) (h2 : b = false → AK P E Q (.c e :: k) fr st) (hx : x.ev fr = some (.bool b) := by rfl) : AK P E Q (.c (.cond x t e) :: k) fr st := AK.cond hx h1 h2
theorem kI {st : St} {fr : Fr} {s : Nat} {x : AV} (h : fr s = some x := by rfl) : ∃ v, fr s = some v ∧ AVle st v x := ⟨x, h, .refl _⟩
theorem kJ {st : St} {s : Nat} {cs : List AV} {fz : Bool} (h : st.box s = some (cs, fz) := by rfl) : ∃ ds, st.box s = some (ds, fz) ∧ leL st ds cs := ⟨cs, h, leL_refl _⟩
theorem kU {st : St} {fr : Fr} {s : Nat} {k : IntKind} {a b : Int} (h : fr s = some (.int k a) := by rfl) (e : a = b := by first | omega | (rw [wrap_in (by omega) (by omega)]; omega)) : ∃ v, fr s = some v ∧ AVle st v (.int k b) := ⟨_, h, .of_eq (congrArg _ e)⟩
theorem byte_at {s : ByteArray} {k : Nat} (h : k < s.size) : s.data.getD k 0 = s[k] := by
 rw [Array.getD, dif_pos (show k < s.data.size from h)]
 rfl
end Go.Proofs.YtnpkejnaeemgjaaGreatDoor
