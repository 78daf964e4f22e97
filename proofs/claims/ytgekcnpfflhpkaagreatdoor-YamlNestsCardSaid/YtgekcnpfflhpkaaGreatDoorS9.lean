/-
  The texts that the claim wants, one behind the other: part 9.
-/
import Derived.Test.YtgekcnpfflhpkaaGreatDoorS8
import Derived.ProofKit
import Derived.SizedLaws
import Derived.Deep.Slices
import Derived.Test.YtgekcnpfflhpkaaGreatDoorChecked
import Derived.KernelRfl
set_option linter.unusedSimpArgs false
set_option linter.unusedVariables false
namespace Go.Proofs.YtgekcnpfflhpkaaGreatDoor
open Go.ChangeShapes Go.WideShapes Go.ChangeAt Go.RowKit Go.Deep
section
variable {H : Type} {enc : TypeId × Value → H} {P : Program}
theorem trodAll_below (hl : laidOutB P = true) {W W' : World} (hb : Below W.heap.size W W') : ∀ (ts : List TypeId) (vs : List Value) (ds : List (DataW H)) (p : List MemPlace),
  (∀ t ∈ ts, P.readableRec t = true ∧ t < P.types.size) → DataW.TrodAll enc P W 0 (fun _ => true) true ts vs ds p → (∀ x ∈ p, x.block < W.heap.size) →
  DataW.TrodAll enc P W' 0 (fun b => decide (b < W.heap.size)) true ts vs ds p
 | [], vs, ds, p, _, h, _ => by
  obtain ⟨rfl, rfl, rfl⟩ := trodAll_nil h
  exact rfl
 | t :: ts, vs, ds, p, ht, h, hlt => by
  obtain ⟨v, vs', d, ds', p', q, rfl, rfl, rfl, h1, h2⟩ := trodAll_cons h
  exact ⟨p', q, Below.trod hl (ht t (by simp)).1 (ht t (by simp)).2 h1 hb (fun x hx => hlt x (by simp [hx])),
   trodAll_below hl hb ts vs' ds' q (fun t' h' => ht t' (by simp [h'])) h2 (fun x hx => hlt x (by simp [hx])), rfl⟩
theorem law_post {f : Func} {s : ChangeSpec} {tb : TypeId} (hl : laidOutB P = true) (hr : (f.params.toList.all fun t => P.readableRec t && decide (t < P.types.size)) = true) (hres : f.resultTypes = #[tb]) (hB : P.underlying tb = some .bool)
  (hv : s.vars = []) {W W' : World} {args : Array Value} {ds gs : List (DataW H)} {before : List MemPlace} (hW : DataW.Whole enc P f.params.toList s.vars false W args.toList ds gs before)
  (hs : s.fn H (ds ++ []) = { results := [.lit (.bool true)], args := ds }) (hb : Below W.heap.size W W') : s.post enc P f false true false false W args (.bool true) W' := by
 have hW' := hW
 obtain ⟨p, q, hA, hV, rfl, hfz, hnd⟩ := hW
 rw [hv] at hV
 obtain ⟨rfl, rfl⟩ := trodVars_none hV
 have e := hs
 have hlt : ∀ x ∈ p, x.block < W.heap.size := fun x hx => hW'.lt x (by simp [hx])
 refine ⟨ds, [], p ++ [], [], p, [], hW', ?_, ?_, ?_, hb.frame _, fun h => by cases h⟩
 ·rw [e, hres]; exact trodAll_mk1 (shut_bool hB _)
 ·rw [e]
  exact trodAll_below hl hb _ _ _ _ (fun t ht => by
   have := List.all_eq_true.1 hr t ht
   simpa using this) hA hlt
 ·rw [e, hv]; exact rfl
end
theorem list6 {α : Type} {l : List α} (h : l.length = 6) : ∃ a b c d e f, l = [a, b, c, d, e, f] := by
 rcases l with _ | ⟨a, _ | ⟨b, _ | ⟨c, _ | ⟨d, _ | ⟨e, _ | ⟨f, _ | ⟨g, l⟩⟩⟩⟩⟩⟩⟩ <;> simp at h
 exact ⟨a, b, c, d, e, f, rfl⟩
theorem list7 {α : Type} {l : List α} (h : l.length = 7) : ∃ a b c d e f g, l = [a, b, c, d, e, f, g] := by
 rcases l with _ | ⟨a, l⟩
 ·simp at h
 ·obtain ⟨b, c, d, e, f, g, rfl⟩ := list6 (l := l) (by simpa using h)
  exact ⟨a, b, c, d, e, f, g, rfl⟩
section
variable {H : Type} {enc : TypeId × Value → H} {P : Program}
end
end Go.Proofs.YtgekcnpfflhpkaaGreatDoor
namespace Go.Proofs.YtgekcnpfflhpkaaGreatDoor
set_option maxRecDepth 100000
def b_tree_Clone : ACode :=
 .seq (.reg [⟨none, .box 1 (.s 0)⟩, ⟨none, .alloc 2 [.int .i64 0, .bool false, .int .i64 0, .str ⟨#[]⟩, .lst .nil 6 [], .lst .nil 7 []]⟩]) (.seq (.reg [⟨none, .off 5 4 (.s 1)⟩, ⟨none, .ld 6 1 false (.s 5)⟩, ⟨none, .call (some 7) (.k (.fn 136 [])) [.s 6]⟩, ⟨none, .off 8 5 (.s 1)⟩, ⟨none, .ld 9 1 false (.s 8)⟩, ⟨none, .call (some 10) (.k (.fn 121 [])) [.s 9]⟩, ⟨none, .off 11 4 (.s 1)⟩, ⟨none, .st 1 (.s 11) (.s 7)⟩, ⟨none, .off 12 5 (.s 1)⟩, ⟨none, .st 1 (.s 12) (.s 10)⟩]) (.seq (.seq (.reg [⟨none, .off 13 4 (.s 1)⟩, ⟨none, .ld 14 1 false (.s 13)⟩, ⟨none, .len 15 false (.s 14)⟩, ⟨none, .mov 16 (.k (.int .i64 0))⟩]) (.block 0 (.loop (.seq (.reg [⟨none, .bin 17 .lss false (.s 16) (.s 15)⟩]) (.seq (.cond (.s 17) .skip (.exit 0)) (.seq (.block 1 (.seq (.reg [⟨none, .mov 18 (.s 16)⟩, ⟨none, .mov 3 (.s 18)⟩]) (.reg [⟨none, .off 19 4 (.s 1)⟩, ⟨none, .ld 20 1 false (.s 19)⟩, ⟨none, .mov 21 (.s 3)⟩, ⟨none, .off 22 4 (.s 1)⟩, ⟨none, .ld 23 1 false (.s 22)⟩, ⟨none, .mov 24 (.s 3)⟩, ⟨none, .idx 25 6 (.s 23) (.s 24)⟩, ⟨none, .ld 26 6 true (.s 25)⟩, ⟨none, .call (some 27) (.k (.fn 117 [])) [.s 26]⟩, ⟨none, .idx 28 6 (.s 20) (.s 21)⟩, ⟨none, .st 6 (.s 28) (.s 27)⟩]))) (.reg [⟨none, .bin 29 .add false (.s 16) (.k (.int .i64 1))⟩, ⟨none, .mov 16 (.s 29)⟩]))))))) (.seq (.seq (.reg [⟨none, .off 30 5 (.s 1)⟩, ⟨none, .ld 31 1 false (.s 30)⟩, ⟨none, .len 32 false (.s 31)⟩, ⟨none, .mov 33 (.k (.int .i64 0))⟩]) (.block 2 (.loop (.seq (.reg [⟨none, .bin 34 .lss false (.s 33) (.s 32)⟩]) (.seq (.cond (.s 34) .skip (.exit 2)) (.seq (.block 3 (.seq (.reg [⟨none, .mov 35 (.s 33)⟩, ⟨none, .mov 4 (.s 35)⟩]) (.reg [⟨none, .off 36 5 (.s 1)⟩, ⟨none, .ld 37 1 false (.s 36)⟩, ⟨none, .mov 38 (.s 4)⟩, ⟨none, .off 39 5 (.s 1)⟩, ⟨none, .ld 40 1 false (.s 39)⟩, ⟨none, .mov 41 (.s 4)⟩, ⟨none, .idx 42 7 (.s 40) (.s 41)⟩, ⟨none, .off 43 1 (.s 42)⟩, ⟨none, .ld 44 6 true (.s 43)⟩, ⟨none, .call (some 45) (.k (.fn 117 [])) [.s 44]⟩, ⟨none, .idx 46 7 (.s 37) (.s 38)⟩, ⟨none, .off 47 1 (.s 46)⟩, ⟨none, .st 6 (.s 47) (.s 45)⟩]))) (.reg [⟨none, .bin 48 .add false (.s 33) (.k (.int .i64 1))⟩, ⟨none, .mov 33 (.s 48)⟩]))))))) (.seq (.reg [⟨none, .ld 49 6 true (.s 1)⟩, ⟨none, .st 6 (.s 2) (.s 49)⟩]) .ret))))
def a_tree_Clone : AFn := ⟨1, 50, b_tree_Clone, [.cell 2 6 true]⟩
theorem a_tree_Clone_ok : fnAF Tryz.prog [120, 118] Tryz.f117 = some a_tree_Clone := by kernel_rfl
theorem a_tree_Clone_cb : callable Tryz.prog 117 = true := by kernel_rfl
def b_tree_Map : ACode :=
 .seq (.reg [⟨none, .alloc 2 [.int .i64 0, .bool false, .int .i64 0, .str ⟨#[]⟩, .lst .nil 6 [], .lst .nil 7 []]⟩]) (.seq (.reg [⟨none, .build 8 [.int .i64 0, .bool false, .int .i64 0, .str ⟨#[]⟩, .lst .nil 6 [], .lst .nil 7 []] [(0, 1, .k (.int .i64 5))]⟩, ⟨none, .alloc 3 [.int .i64 0, .bool false, .int .i64 0, .str ⟨#[]⟩, .lst .nil 6 [], .lst .nil 7 []]⟩, ⟨none, .st 6 (.s 3) (.s 8)⟩]) (.seq (.seq (.reg [⟨none, .mov 9 (.s 0)⟩, ⟨none, .len 10 false (.s 9)⟩, ⟨none, .mov 11 (.k (.int .i64 0))⟩]) (.block 0 (.loop (.seq (.reg [⟨none, .bin 12 .lss false (.s 11) (.s 10)⟩]) (.seq (.cond (.s 12) .skip (.exit 0)) (.seq (.block 1 (.seq (.reg [⟨none, .idx 13 7 (.s 9) (.s 11)⟩, ⟨none, .ld 14 7 true (.s 13)⟩, ⟨none, .alloc 5 [.str ⟨#[]⟩, .int .i64 0, .bool false, .int .i64 0, .str ⟨#[]⟩, .lst .nil 6 [], .lst .nil 7 []]⟩, ⟨none, .st 7 (.s 5) (.s 14)⟩]) (.seq (.reg [⟨none, .off 16 5 (.s 3)⟩, ⟨none, .ld 17 1 false (.s 16)⟩, ⟨none, .off 18 0 (.s 5)⟩, ⟨none, .ld 19 1 false (.s 18)⟩, ⟨none, .callr (some 20) (.k (.fn 118 [])) [.s 17, .s 19, .k (.fn 119 [])]⟩, ⟨none, .mov 15 (.s 20)⟩, ⟨none, .ext 21 0 (.s 15)⟩, ⟨none, .ext 22 1 (.s 15)⟩, ⟨none, .mov 6 (.s 21)⟩, ⟨none, .mov 7 (.s 22)⟩]) (.seq (.seq (.reg [⟨none, .mov 23 (.s 7)⟩]) (.cond (.s 23) (.seq (.reg [⟨none, .off 24 5 (.s 3)⟩, ⟨none, .ld 25 1 false (.s 24)⟩, ⟨none, .mov 26 (.s 6)⟩, ⟨none, .off 27 1 (.s 5)⟩, ⟨none, .ld 28 6 true (.s 27)⟩, ⟨none, .call (some 29) (.k (.fn 117 [])) [.s 28]⟩, ⟨none, .idx 30 7 (.s 25) (.s 26)⟩, ⟨none, .off 31 1 (.s 30)⟩, ⟨none, .st 6 (.s 31) (.s 29)⟩]) (.exit 1)) .skip)) (.reg [⟨none, .off 32 5 (.s 3)⟩, ⟨none, .ld 33 1 false (.s 32)⟩, ⟨none, .mov 34 (.s 6)⟩, ⟨none, .off 35 0 (.s 5)⟩, ⟨none, .ld 36 1 false (.s 35)⟩, ⟨none, .off 37 1 (.s 5)⟩, ⟨none, .ld 38 6 true (.s 37)⟩, ⟨none, .call (some 39) (.k (.fn 117 [])) [.s 38]⟩, ⟨none, .build 40 [.str ⟨#[]⟩, .int .i64 0, .bool false, .int .i64 0, .str ⟨#[]⟩, .lst .nil 6 [], .lst .nil 7 []] [(0, 1, .s 36), (1, 6, .s 39)]⟩, ⟨none, .bsl 41 1 7 [.str ⟨#[]⟩, .int .i64 0, .bool false, .int .i64 0, .str ⟨#[]⟩, .lst .nil 6 [], .lst .nil 7 []] [(0, 7, .s 40)]⟩, ⟨none, .callr (some 42) (.k (.fn 120 [])) [.s 33, .s 34, .s 41]⟩, ⟨none, .off 43 5 (.s 3)⟩, ⟨none, .st 1 (.s 43) (.s 42)⟩]))))) (.reg [⟨none, .bin 44 .add false (.s 11) (.k (.int .i64 1))⟩, ⟨none, .mov 11 (.s 44)⟩]))))))) (.seq (.reg [⟨none, .ld 45 6 true (.s 3)⟩, ⟨none, .st 6 (.s 2) (.s 45)⟩]) .ret)))
def a_tree_Map : AFn := ⟨1, 46, b_tree_Map, [.cell 2 6 true]⟩
theorem a_tree_Map_ok : fnAF Tryz.prog [120, 118] Tryz.f92 = some a_tree_Map := by kernel_rfl
theorem a_tree_Map_cb : callable Tryz.prog 92 = true := by kernel_rfl
theorem a_slices_Clone_Value_cb : callable Tryz.prog 136 = true := by kernel_rfl
theorem a_slices_Clone_Pair_cb : callable Tryz.prog 121 = true := by kernel_rfl
end Go.Proofs.YtgekcnpfflhpkaaGreatDoor
namespace Go.Proofs.YtgekcnpfflhpkaaGreatDoor
open Go.RowKit
theorem lst_cells {σ : Sg} {v : Value} {t : Tag} {esz : Nat} {l : List (List AV)} (h : Rel1 σ v (.lst t esz l)) : ∃ (A : Option Addr) (cap b o : Nat) (news : List Value), v = .slice A l.length cap ∧ l.length ≤ cap ∧ (0 < l.length → A = some ⟨b, o, none⟩) ∧ (∀ c ∈ l, c.length = esz) ∧
  news.length = l.length * esz ∧ RelL σ news l.flatten ∧ ∀ (q : Nat) u, news[q]? = some u → σ b (o + q) = some u := by
 cases h with
 | lst t esz l A n cap b o f hn hlen hA hsz hσ hr ht =>
  subst hn
  have hsz' : ∀ c ∈ l, c.length = esz := fun c hc => by
   obtain ⟨i, hi⟩ := List.getElem?_of_mem hc
   exact hsz i c hi
  have hfl : ∀ l : List (List AV), (∀ c ∈ l, c.length = esz) → l.flatten.length = l.length * esz := by
   intro l
   induction l with
   | nil => intro _; simp
   | cons x l ih => intro hx; rw [List.flatten_cons, List.length_append, List.length_cons, ih fun c hc => hx c (by simp [hc]), hx x (by simp), Nat.add_mul]; omega
  have hat : ∀ (l : List (List AV)) (i j : Nat) (c : List AV) (a : AV), (∀ c ∈ l, c.length = esz) → l[i]? = some c → c[j]? = some a → l.flatten[i * esz + j]? = some a := by
   intro l
   induction l with
   | nil => intro i j c a _ h; simp at h
   | cons y l ih =>
    intro i j c a hx hc ha
    have hy := hx y (by simp)
    rw [List.flatten_cons]
    cases i with
    | zero =>
     simp at hc
     subst hc
     rw [Nat.zero_mul, Nat.zero_add, List.getElem?_append_left (List.getElem?_eq_some_iff.1 ha).1]
     exact ha
    | succ i =>
     rw [List.getElem?_append_right (by rw [hy, Nat.add_mul]; omega), hy, show (i + 1) * esz + j - esz = i * esz + j by rw [Nat.add_mul]; omega]
     exact ih i j c a (fun c hc => hx c (by simp [hc])) (by simpa using hc) ha
  refine ⟨A, cap, b, o, flatV l.length esz f, rfl, hlen, hA, hsz', flatV_len _ _ _, ⟨by rw [flatV_len, hfl l hsz'], fun q v a hv ha => ?_⟩, fun q u hu => flatV_cells hσ q u hu⟩
  have hq : q < l.length * esz := by have := (List.getElem?_eq_some_iff.1 hv).1; rwa [flatV_len] at this
  have he : 0 < esz := by
   rcases Nat.eq_zero_or_pos esz with h | h
   ·subst h; omega
   ·exact h
  rw [flatV_at f hq] at hv
  cases hv
  have h1 : q / esz < l.length := Nat.div_lt_of_lt_mul (by rw [Nat.mul_comm]; exact hq)
  have h2 : l[q / esz]? = some l[q / esz] := List.getElem?_eq_getElem h1
  have h3 : q % esz < (l[q / esz]).length := by rw [hsz _ _ h2]; exact Nat.mod_lt _ he
  have h4 := List.getElem?_eq_getElem h3
  have h5 := hat l _ _ _ _ hsz' h2 h4
  have e : q / esz * esz + q % esz = q := by
   have := Nat.div_add_mod q esz
   rw [Nat.mul_comm] at this
   exact this
  rw [e, ha] at h5
  cases h5
  exact hr _ _ _ _ h2 h4
end Go.Proofs.YtgekcnpfflhpkaaGreatDoor
namespace Go.Proofs.YtgekcnpfflhpkaaGreatDoor
set_option maxRecDepth 100000
def b_tree_Int : ACode :=
 .seq (.reg [⟨none, .alloc 2 [.int .i64 0, .bool false, .int .i64 0, .str ⟨#[]⟩, .lst .nil 6 [], .lst .nil 7 []]⟩]) (.seq (.reg [⟨none, .mov 3 (.s 0)⟩, ⟨none, .build 4 [.int .i64 0, .bool false, .int .i64 0, .str ⟨#[]⟩, .lst .nil 6 [], .lst .nil 7 []] [(0, 1, .k (.int .i64 2)), (2, 1, .s 3)]⟩, ⟨none, .st 6 (.s 2) (.s 4)⟩]) .ret)
def a_tree_Int : AFn := ⟨1, 5, b_tree_Int, [.cell 2 6 true]⟩
theorem a_tree_Int_ok : fnAF Tryz.prog [] Tryz.f145 = some a_tree_Int := by kernel_rfl
theorem a_tree_Int_cb : callable Tryz.prog 145 = true := by kernel_rfl
def b_tree_Get : ACode :=
 .seq (.reg [⟨none, .box 2 (.s 0)⟩, ⟨none, .alloc 4 [.int .i64 0, .bool false, .int .i64 0, .str ⟨#[]⟩, .lst .nil 6 [], .lst .nil 7 []]⟩, ⟨none, .mov 5 (.k (.bool false))⟩]) (.seq (.seq (.reg [⟨none, .off 8 0 (.s 2)⟩, ⟨none, .ld 9 1 false (.s 8)⟩, ⟨none, .bin 10 .neq false (.s 9) (.k (.int .i64 5))⟩]) (.cond (.s 10) (.seq (.reg [⟨none, .build 11 [.int .i64 0, .bool false, .int .i64 0, .str ⟨#[]⟩, .lst .nil 6 [], .lst .nil 7 []] []⟩, ⟨none, .st 6 (.s 4) (.s 11)⟩, ⟨none, .mov 5 (.k (.bool false))⟩]) .ret) .skip)) (.seq (.reg [⟨none, .off 13 5 (.s 2)⟩, ⟨none, .ld 14 1 false (.s 13)⟩, ⟨none, .mov 15 (.s 1)⟩, ⟨none, .call (some 16) (.k (.fn 118 [])) [.s 14, .s 15, .k (.fn 119 [])]⟩, ⟨none, .mov 12 (.s 16)⟩, ⟨none, .ext 17 0 (.s 12)⟩, ⟨none, .ext 18 1 (.s 12)⟩, ⟨none, .mov 6 (.s 17)⟩, ⟨none, .mov 7 (.s 18)⟩]) (.seq (.seq (.reg [⟨none, .mov 19 (.s 7)⟩, ⟨none, .un 20 .not (.s 19)⟩]) (.cond (.s 20) (.seq (.reg [⟨none, .build 21 [.int .i64 0, .bool false, .int .i64 0, .str ⟨#[]⟩, .lst .nil 6 [], .lst .nil 7 []] []⟩, ⟨none, .st 6 (.s 4) (.s 21)⟩, ⟨none, .mov 5 (.k (.bool false))⟩]) .ret) .skip)) (.seq (.reg [⟨none, .off 22 5 (.s 2)⟩, ⟨none, .ld 23 1 false (.s 22)⟩, ⟨none, .mov 24 (.s 6)⟩, ⟨none, .idx 25 7 (.s 23) (.s 24)⟩, ⟨none, .off 26 1 (.s 25)⟩, ⟨none, .ld 27 6 true (.s 26)⟩, ⟨none, .call (some 28) (.k (.fn 117 [])) [.s 27]⟩, ⟨none, .st 6 (.s 4) (.s 28)⟩, ⟨none, .mov 5 (.k (.bool true))⟩]) .ret))))
def a_tree_Get : AFn := ⟨2, 29, b_tree_Get, [.cell 4 6 true, .tmp 5]⟩
theorem a_tree_Get_ok : fnAF Tryz.prog [] Tryz.f93 = some a_tree_Get := by kernel_rfl
theorem a_tree_Get_cb : callable Tryz.prog 93 = true := by kernel_rfl
def b_tree_byKey : ACode :=
 .seq (.reg [⟨none, .box 2 (.s 0)⟩, ⟨none, .mov 4 (.k (.int .i64 0))⟩]) (.seq (.reg [⟨none, .off 5 0 (.s 2)⟩, ⟨none, .ld 6 1 false (.s 5)⟩, ⟨none, .mov 7 (.s 1)⟩, ⟨none, .call (some 8) (.k (.fn 137 [])) [.s 6, .s 7]⟩, ⟨none, .mov 4 (.s 8)⟩]) .ret)
def a_tree_byKey : AFn := ⟨2, 9, b_tree_byKey, [.tmp 4]⟩
theorem a_tree_byKey_ok : fnAF Tryz.prog [] Tryz.f119 = some a_tree_byKey := by kernel_rfl
theorem a_tree_byKey_cb : callable Tryz.prog 119 = true := by kernel_rfl
def b_slices_BinarySearchFunc_string : ACode :=
 .seq (.reg [⟨none, .mov 6 (.k (.int .i64 0))⟩, ⟨none, .mov 7 (.k (.bool false))⟩]) (.seq (.reg [⟨none, .mov 12 (.s 0)⟩, ⟨none, .len 13 false (.s 12)⟩, ⟨none, .mov 8 (.s 13)⟩]) (.seq (.reg [⟨none, .mov 14 (.s 8)⟩, ⟨none, .mov 9 (.k (.int .i64 0))⟩, ⟨none, .mov 10 (.s 14)⟩]) (.seq (.block 0 (.loop (.seq (.seq (.reg [⟨none, .mov 15 (.s 9)⟩, ⟨none, .mov 16 (.s 10)⟩, ⟨none, .bin 17 .lss false (.s 15) (.s 16)⟩]) (.cond (.s 17) .skip (.exit 0))) (.block 1 (.seq (.reg [⟨none, .mov 18 (.s 9)⟩, ⟨none, .mov 19 (.s 10)⟩, ⟨none, .bin 20 .add false (.s 18) (.s 19)⟩, ⟨none, .conv 21 .u64 (.s 20)⟩, ⟨none, .bin 22 .shr false (.s 21) (.k (.int .u64 1))⟩, ⟨none, .conv 23 .i64 (.s 22)⟩, ⟨none, .mov 11 (.s 23)⟩]) (.seq (.reg [⟨none, .mov 24 (.s 2)⟩, ⟨none, .mov 25 (.s 0)⟩, ⟨none, .mov 26 (.s 11)⟩, ⟨none, .idx 27 7 (.s 25) (.s 26)⟩, ⟨none, .ld 28 7 true (.s 27)⟩, ⟨none, .mov 29 (.s 1)⟩, ⟨none, .call (some 30) (.s 24) [.s 28, .s 29]⟩, ⟨none, .bin 31 .lss false (.s 30) (.k (.int .i64 0))⟩]) (.cond (.s 31) (.reg [⟨none, .mov 32 (.s 11)⟩, ⟨none, .bin 33 .add false (.s 32) (.k (.int .i64 1))⟩, ⟨none, .mov 9 (.s 33)⟩]) (.reg [⟨none, .mov 34 (.s 11)⟩, ⟨none, .mov 10 (.s 34)⟩])))))))) (.seq (.reg [⟨none, .mov 35 (.s 9)⟩, ⟨none, .mov 36 (.s 9)⟩, ⟨none, .mov 37 (.s 8)⟩, ⟨none, .bin 38 .lss false (.s 36) (.s 37)⟩, ⟨none, .mov 39 (.s 38)⟩, ⟨some (39, true), .mov 40 (.s 2)⟩, ⟨some (39, true), .mov 41 (.s 0)⟩, ⟨some (39, true), .mov 42 (.s 9)⟩, ⟨some (39, true), .idx 43 7 (.s 41) (.s 42)⟩, ⟨some (39, true), .ld 44 7 true (.s 43)⟩, ⟨some (39, true), .mov 45 (.s 1)⟩, ⟨some (39, true), .call (some 46) (.s 40) [.s 44, .s 45]⟩, ⟨some (39, true), .bin 47 .eql false (.s 46) (.k (.int .i64 0))⟩, ⟨none, .pick 48 (.s 39) (.s 47) (.k (.bool false))⟩, ⟨none, .mov 6 (.s 35)⟩, ⟨none, .mov 7 (.s 48)⟩]) .ret))))
def a_slices_BinarySearchFunc_string : AFn := ⟨3, 49, b_slices_BinarySearchFunc_string, [.tmp 6, .tmp 7]⟩
theorem a_slices_BinarySearchFunc_string_ok : fnAF Tryz.prog [] Tryz.f118 = some a_slices_BinarySearchFunc_string := by kernel_rfl
theorem a_slices_BinarySearchFunc_string_cb : callable Tryz.prog 118 = true := by kernel_rfl
def b_strings_Compare : ACode :=
 .seq (.reg [⟨none, .mov 4 (.k (.int .i64 0))⟩]) (.seq (.reg [⟨none, .mov 5 (.s 0)⟩, ⟨none, .mov 6 (.s 1)⟩, ⟨none, .call (some 7) (.k (.fn 153 [])) [.s 5, .s 6]⟩, ⟨none, .mov 4 (.s 7)⟩]) .ret)
def a_strings_Compare : AFn := ⟨2, 8, b_strings_Compare, [.tmp 4]⟩
theorem a_strings_Compare_ok : fnAF Tryz.prog [] Tryz.f137 = some a_strings_Compare := by kernel_rfl
theorem a_strings_Compare_cb : callable Tryz.prog 137 = true := by kernel_rfl
end Go.Proofs.YtgekcnpfflhpkaaGreatDoor
namespace Go.Proofs.YtgekcnpfflhpkaaGreatDoor
open Go.RowKit
theorem mfind_size {v x : V} {key : ByteArray} (h : mfind key v.m = some x) : x.size < v.size := V.mem_size (mem_of_mfind h)
end Go.Proofs.YtgekcnpfflhpkaaGreatDoor
