/-
  The texts that the claim wants, one behind the other: part 45.
-/
import Derived.Test.YtgidajjjpeboeaaGreatDoorS44
import Derived.StringKeys
import Derived.Test.YtgidajjjpeboeaaGreatDoorChecked
import Derived.KernelRfl
set_option linter.unusedSimpArgs false
set_option linter.unusedVariables false
namespace Go.Proofs.YtgidajjjpeboeaaGreatDoor
open Go.RowKit Go.Maps Go.MapKept Go.ChangeMaps
theorem strKeyed : Keyed Tryz.prog 9 := string_keyed Tryz.underlying9
theorem zeroBoolK (w : World) : (zeroValue 4).run Tryz.prog w = .ok (.bool false) w := by kernel_rfl
theorem keyStr {s : ByteArray} (h : s.size ≤ 1000000) : keyOf Tryz.prog 9 (.string s) = some (.string s.data.toList) := Go.WideMaps.keyOf_string_mk Tryz.underlying9 (by unfold maxLen; omega)
def rowsK (d : List ByteArray) : List MRow := d.map fun s => ([.str s], [.bool true])
theorem rowsK_len (d : List ByteArray) : (rowsK d).length = d.length := List.length_map _
theorem rowsK_put (d : List ByteArray) (n : ByteArray) : putR (rowsK d) [.str n] [.bool true] = rowsK (insK d n) := by
 unfold putR insK
 by_cases h : n ∈ d
 ·rw [if_pos h, if_pos ⟨_, List.mem_map.2 ⟨n, h, rfl⟩, rfl⟩]
  unfold rowsK
  rw [List.map_map]
  refine List.map_congr_left fun y _ => ?_
  simp only [Function.comp]
  split
  ·rename_i e; rw [e]
  ·rfl
 ·rw [if_neg h, if_neg]
  ·unfold rowsK
   rw [List.map_append]
   rfl
  ·rintro ⟨r, hr, hk⟩
   obtain ⟨x, hx, rfl⟩ := List.mem_map.1 hr
   simp at hk
   exact h (hk ▸ hx)
theorem rowsK_find (d : List ByteArray) (n : ByteArray) : Found (rowsK d) [.str n] (if n ∈ d then some [.bool true] else none) := by
 by_cases h : n ∈ d
 ·rw [if_pos h]
  exact List.mem_map.2 ⟨n, h, rfl⟩
 ·rw [if_neg h]
  intro r hr hk
  obtain ⟨x, hx, rfl⟩ := List.mem_map.1 hr
  simp at hk
  exact h (hk ▸ hx)
theorem rowsK_keys {d : List ByteArray} (h : ∀ n ∈ d, n.size ≤ 1000000) : KeysOk Tryz.prog 9 (rowsK d) := fun r hr => by
 obtain ⟨x, hx, rfl⟩ := List.mem_map.1 hr
 exact ⟨_, _, rfl, keyStr (h x hx)⟩
theorem newK_m : MOp Tryz.prog (.new 61) [] [] [(1900102, [mcA (rowsK [])])] (.np 1900102 0) := mop_new rfl
theorem setK_m {d : List ByteArray} (hd : ∀ n ∈ d, n.size ≤ 1000000) {n : ByteArray} (hn : n.size ≤ 1000000) : MOp Tryz.prog (.set 61) [(1900102, [mcA (rowsK d)])] [.np 1900102 0, .str n, .bool true] [(1900102, [mcA (rowsK (insK d n))])] (.bool true) := by
 rw [← rowsK_put]
 exact mop_set (κ := [.str n]) (vc := [.bool true]) rfl Tryz.underlying61 strKeyed (rowsK_keys hd) rfl (keyStr hn) fun c hc => by
  rw [List.mem_singleton.1 hc]
  rfl
theorem getK_m {d : List ByteArray} (hd : ∀ n ∈ d, n.size ≤ 1000000) {n : ByteArray} (hn : n.size ≤ 1000000) : MOp Tryz.prog (.get 61 false) [(1900102, [mcA (rowsK d)])] [.np 1900102 0, .str n] [(1900102, [mcA (rowsK d)])] (.bool (decide (n ∈ d))) := by
 have h := mop_get (κ := [.str n]) (z := [.bool false]) (o := if n ∈ d then some [.bool true] else none) false (id := 1900102) rfl Tryz.underlying61 strKeyed (rowsK_keys hd) rfl (keyStr hn) zeroBoolK (fun σ => Rel1.bool _) (rowsK_find d n) (by
  split <;> (intro c hc; rw [List.mem_singleton.1 hc]; rfl))
 by_cases hm : n ∈ d
 ·rw [if_pos hm] at h
  rw [decide_eq_true hm]
  exact h
 ·rw [if_neg hm] at h
  rw [decide_eq_false hm]
  exact h
theorem lenK_m {ty : TypeId} (d : List ByteArray) : MOp Tryz.prog (.len 61 ty) [(1900102, [mcA (rowsK d)])] [.np 1900102 0] [(1900102, [mcA (rowsK d)])] (.int .i64 d.length) := by
 have h := mop_len (P := Tryz.prog) (id := 1900102) (rows := rowsK d) (ty := ty) rfl Tryz.underlying61
 rw [rowsK_len] at h
 exact h
end Go.Proofs.YtgidajjjpeboeaaGreatDoor
namespace Go.Proofs.YtgidajjjpeboeaaGreatDoor
set_option maxRecDepth 100000
def b_law12_Light : ACode :=
 .seq (gQ [⟨gO, .mov 2 (.k (.bool false))⟩]) (.seq (.seq (gQ [gM 5 0, gH 6 false 5, gU 7 .gtr 6 40]) (.cond (.s 7) (.seq (gQ [⟨gO, .mov 2 (.k (.bool false))⟩]) .ret) .skip)) (.seq (.seq (gQ [gM 8 0, gH 9 false 8, gJ 10 0]) (.block 0 (.loop (.seq (gQ [gV 11 .lss 10 9]) (.seq (.cond (.s 11) .skip (.exit 0)) (.seq (.block 1 (.seq (gQ [gE 12 9 8 10, gA 13 9 12, ⟨gO, .alloc 4 [.str ⟨#[]⟩, .str ⟨#[]⟩, .str ⟨#[]⟩, .int .i64 0, .bool false, .int .i64 0, .str ⟨#[]⟩, .lst .nil 6 [], .lst .nil 7 []]⟩, gT 9 4 13]) (.seq (gQ [gF 14 3 4, gA 15 6 14, gC 16 6 [.s 15], ⟨gO, .un 17 .not (.s 16)⟩]) (.cond (.s 17) (.seq (gQ [⟨gO, .mov 2 (.k (.bool false))⟩]) .ret) .skip)))) (.reg [gU 18 .add 10 1, gM 10 18]))))))) (.seq (gQ [⟨gO, .mov 2 (.k (.bool true))⟩]) .ret)))
def a_law12_Light : AFn := ⟨1, 19, b_law12_Light, [.tmp 2]⟩
theorem a_law12_Light_ok : fnAF Tryz.prog [] Tryz.f16 = some a_law12_Light := by kernel_rfl
theorem a_law12_Light_cb : callable Tryz.prog 16 = true := by kernel_rfl
end Go.Proofs.YtgidajjjpeboeaaGreatDoor
namespace Go.Proofs.YtgidajjjpeboeaaGreatDoor
open Go.RowKit
theorem wtL_drop {l : List V} {k deep n : Nat} {x : V} (h : l[k]? = some x) : wtL (l.drop k) deep n = if 6000 < n + x.wt deep then (n + x.wt deep, true) else wtL (l.drop (k + 1)) deep (n + x.wt deep) := by
 rw [drop_at h, wtL]
theorem wtM_drop {l : List (ByteArray × V)} {k deep n : Nat} {y : ByteArray} {x : V} (h : l[k]? = some (y, x)) : wtM (l.drop k) deep n = if 6000 < n + (x.wt deep + y.size) then (n + (x.wt deep + y.size), true) else wtM (l.drop (k + 1)) deep (n + (x.wt deep + y.size)) := by
 rw [drop_at h, wtM]
theorem wt_deep {v : V} {deep : Nat} (h : 40 < deep) : v.wt deep = 1048576 := by rw [V.wt_eq, if_pos h]
theorem wt_list {v : V} {deep : Nat} (h : ¬ 40 < deep) (h2 : (wtL v.l (deep + 1) (1 + v.s.size)).2 = true) : v.wt deep = (wtL v.l (deep + 1) (1 + v.s.size)).1 := by rw [V.wt_eq, if_neg h, if_pos h2]
theorem wt_map {v : V} {deep n : Nat} (h : ¬ 40 < deep) (h2 : wtL v.l (deep + 1) (1 + v.s.size) = (n, false)) : v.wt deep = (wtM v.m (deep + 1) n).1 := by rw [V.wt_eq, if_neg h, h2]; rfl
theorem weight_a (N : Nat) : ∀ (v : V) (deep : Nat), v.size ≤ N → v.sb → deep ≤ 41 → AC Tryz.prog 26 [(vA (v)), .int .i64 deep] (.int .i64 (v.wt deep : Nat)) := by
 induction N with
 | zero => intro v _ h; have := v.size_pos; omega
 | succ N ih =>
  intro v deep hn hsb hd
  have hve := v.size_eq
  have hss := sb_s hsb
  have hll := len_le_sizeL v.l
  have hlm := len_le_sizeM v.m
  obtain ⟨hl1, hl2⟩ := sb_len hsb
  refine kE Tryz.func26 a_law01_weight_ok a_law01_weight_cb fun E hE => ?_
  refine kW ?_
  refine kC (fun hb => ?_) fun hb => ?_
  ·have h1 : 40 < deep := by have : (40 : Int) < deep := by simpa using hb
                             omega
   refine kW ?_
   refine AK.ret ⟨_, rfl, ?_⟩
   exact congrArg (AV.int _) (by rw [wt_deep h1]; rfl)
  have h1 : ¬ 40 < deep := by have : (deep : Int) ≤ 40 := by simpa using hb
                              omega
  refine kW ?_
  refine AK.loopI (fun i : Nat × Nat => (frOf [(1, .int .i64 deep), (2, .ptr 2 0), (5, .int .i64 (i.2 : Nat)), (17, .lst .any 6 (rowsV v.l)), (18, .int .i64 (rowsV v.l).length), (19, .int .i64 i.1)], ⟨boxOf [(2, (vC (v)), false)], fun _ => 0⟩))
   (fun i => i.1 ≤ v.l.length ∧ i.2 ≤ 140737488361328 ∧ wtL (v.l.drop i.1) (deep + 1) i.2 = wtL v.l (deep + 1) (1 + v.s.size)) (fun i => v.l.length - i.1) (0, 1 + v.s.size) ⟨by simp, by simp; omega, rfl⟩ (Weak.intro ⟨kI, kI, kU, kI, kI, kI, trivial⟩ ⟨kJ, trivial⟩ rfl rfl) fun ⟨k, n⟩ ⟨hk, hn6, hr⟩ => ?_
  dsimp only at hk hn6 hr
  refine kW ?_
  refine kC (fun hb => ?_) fun hb => ?_
  ·have hlt : k < v.l.length := by simpa [rowsV_len] using hb
   obtain ⟨x, hg⟩ : ∃ x, v.l[k]? = some x := ⟨_, List.getElem?_eq_getElem hlt⟩
   have hx := sizeL_take hg
   have hx2 := sizeL_take_le v.l (k + 1)
   have hwt := V.wt_sb (sb_l hsb hg) (deep := deep + 1) (by omega)
   rw [wtL_drop hg] at hr
   refine kW ?_
   refine kP [.c (vC (x))] ?_ ?_
   ·((repeat' apply And.intro) <;> first | exact kD | (intro hgd; refine ⟨?_, kG⟩; (repeat' apply And.intro) <;> first | exact kD | skip) | skip)
    ·exact rowsV_at hg
   refine kW ?_
   refine kP [.v (.int .i64 (x.wt (deep + 1) : Nat))] ?_ ?_
   ·((repeat' apply And.intro) <;> first | exact kD | (intro hgd; refine ⟨?_, kG⟩; (repeat' apply And.intro) <;> first | exact kD | skip) | skip)
    ·rw [wrap_in (by omega) (by omega)]
     exact ih x (deep + 1) (by omega) (sb_l hsb hg) (by omega)
   refine kW ?_
   have hw : IntKind.i64.wrap (((k, n).2 : Nat) + (x.wt (deep + 1) : Nat)) = ((n + x.wt (deep + 1) : Nat) : Int) := by
    rw [wrap_in (by omega) (by omega)]; omega
   refine kC (fun hb => ?_) fun hb => ?_
   ·have he : 6000 < n + x.wt (deep + 1) := by
     have : (6000 : Int) < (n + x.wt (deep + 1) : Nat) := by rw [← hw]; simpa using hb
     omega
    rw [if_pos he] at hr
    refine kW ?_
    refine AK.ret ⟨_, rfl, ?_⟩
    exact congrArg (AV.int _) (by rw [wt_list h1 (by rw [← hr]), ← hr, hw])
   ·have he : ¬ 6000 < n + x.wt (deep + 1) := by
     have : ((n + x.wt (deep + 1) : Nat) : Int) ≤ 6000 := by rw [← hw]; simpa using hb
     omega
    rw [if_neg he] at hr
    refine kW ?_
    exact AK.lp ⟨(k + 1, n + x.wt (deep + 1)), ⟨by dsimp only; omega, by dsimp only; omega, hr⟩, Weak.intro ⟨kI, kI, ⟨_, rfl, .of_eq (congrArg _ hw)⟩, kI, kI, kU, trivial⟩ ⟨kJ, trivial⟩ rfl rfl, by dsimp only; omega⟩
  ·have hlt : k = v.l.length := by have : v.l.length ≤ k := by simpa [rowsV_len] using hb
                                   omega
   subst hlt
   rw [List.drop_length, wtL] at hr
   refine AK.exit rfl ?_
   refine kW ?_
   refine AK.loopI (fun i : Nat × Nat => (frOf [(1, .int .i64 deep), (2, .ptr 2 0), (5, .int .i64 (i.2 : Nat)), (34, .lst .any 7 (rowsM v.m)), (35, .int .i64 (rowsM v.m).length), (36, .int .i64 i.1)], ⟨boxOf [(2, (vC (v)), false)], fun _ => 0⟩))
    (fun i => i.1 ≤ v.m.length ∧ i.2 ≤ 140737488361328 ∧ (wtM (v.m.drop i.1) (deep + 1) i.2).1 = v.wt deep) (fun i => v.m.length - i.1) (0, n) ⟨by simp, hn6, (wt_map h1 hr.symm).symm⟩ (Weak.intro ⟨kI, kI, kI, kI, kI, kI, trivial⟩ ⟨kJ, trivial⟩ rfl rfl) fun ⟨k, n⟩ ⟨hk, hn6, hr⟩ => ?_
   dsimp only at hk hn6 hr
   refine kW ?_
   refine kC (fun hb => ?_) fun hb => ?_
   ·have hlt : k < v.m.length := by simpa [rowsM_len] using hb
    obtain ⟨⟨y, x⟩, hg⟩ : ∃ x, v.m[k]? = some x := ⟨_, List.getElem?_eq_getElem hlt⟩
    have hx := sizeM_take hg
    have hx2 := sizeM_take_le v.m (k + 1)
    have hwt := V.wt_sb (sb_m hsb hg).2 (deep := deep + 1) (by omega)
    have hy := (sb_m hsb hg).1
    rw [wtM_drop hg] at hr
    refine kW ?_
    refine kP [.c (.str y :: (vC (x)))] ?_ ?_
    ·((repeat' apply And.intro) <;> first | exact kD | (intro hgd; refine ⟨?_, kG⟩; (repeat' apply And.intro) <;> first | exact kD | skip) | skip)
     ·exact rowsM_at hg
    refine kW ?_
    refine kP [.v (.int .i64 (x.wt (deep + 1) : Nat))] ?_ ?_
    ·((repeat' apply And.intro) <;> first | exact kD | (intro hgd; refine ⟨?_, kG⟩; (repeat' apply And.intro) <;> first | exact kD | skip) | skip)
     ·rw [wrap_in (by omega) (by omega)]
      exact ih x (deep + 1) (by omega) (sb_m hsb hg).2 (by omega)
    refine kW ?_
    have hw : IntKind.i64.wrap (((k, n).2 : Nat) + IntKind.i64.wrap ((x.wt (deep + 1) : Nat) + y.size)) = ((n + (x.wt (deep + 1) + y.size) : Nat) : Int) := by
     rw [wrap_in (n := (x.wt (deep + 1) : Nat) + y.size) (by omega) (by omega), wrap_in (by dsimp only; omega) (by dsimp only; omega)]; dsimp only; omega
    refine kC (fun hb => ?_) fun hb => ?_
    ·have he : 6000 < n + (x.wt (deep + 1) + y.size) := by
      have : (6000 : Int) < (n + (x.wt (deep + 1) + y.size) : Nat) := by rw [← hw]; simpa using hb
      omega
     rw [if_pos he] at hr
     refine kW ?_
     refine AK.ret ⟨_, rfl, ?_⟩
     exact congrArg (AV.int _) (by rw [← hr, hw])
    ·have he : ¬ 6000 < n + (x.wt (deep + 1) + y.size) := by
      have : ((n + (x.wt (deep + 1) + y.size) : Nat) : Int) ≤ 6000 := by rw [← hw]; simpa using hb
      omega
     rw [if_neg he] at hr
     refine kW ?_
     exact AK.lp ⟨(k + 1, n + (x.wt (deep + 1) + y.size)), ⟨by dsimp only; omega, by dsimp only; omega, hr⟩, Weak.intro ⟨kI, kI, ⟨_, rfl, .of_eq (congrArg _ hw)⟩, kI, kI, kU, trivial⟩ ⟨kJ, trivial⟩ rfl rfl, by dsimp only; omega⟩
   ·have hlt : k = v.m.length := by have : v.m.length ≤ k := by simpa [rowsM_len] using hb
                                    omega
    subst hlt
    rw [List.drop_length, wtM] at hr
    refine AK.exit rfl ?_
    refine kW ?_
    refine AK.ret ⟨_, rfl, ?_⟩
    exact congrArg (AV.int _) (by rw [← hr])
theorem light_a (v : V) (hsb : v.sb) : AC Tryz.prog 6 [(vA (v))] (.bool v.light_) := by
 refine kE Tryz.func6 a_law01_Light_ok a_law01_Light_cb fun E hE => ?_
 refine kW ?_
 refine kP [.v (.int .i64 (v.wt 0 : Nat))] ?_ ?_
 ·((repeat' apply And.intro) <;> first | exact kD | (intro hgd; refine ⟨?_, kG⟩; (repeat' apply And.intro) <;> first | exact kD | skip) | skip)
  ·exact weight_a _ v 0 (Nat.le_refl _) hsb (by omega)
 refine kW ?_
 refine AK.ret ⟨_, rfl, ?_⟩
 refine congrArg AV.bool ?_
 rw [V.light_, Bool.eq_iff_iff]
 simp
 omega
def lightO (l : List Ob) : Bool := l.all fun o => o.v.light_
theorem lightO_take {l : List Ob} {k : Nat} {o : Ob} (h : l[k]? = some o) : lightO (l.take (k + 1)) = (lightO (l.take k) && o.v.light_) := by
 unfold lightO
 rw [List.take_add_one, h]
 simp [Option.toList]
theorem lightO_a (l : List Ob) (hsb : ∀ o ∈ l, o.v.sb) (hl : l.length ≤ 4398046511104) : AC Tryz.prog 16 [.lst .any 9 (rowsO l)] (.bool (decide (l.length ≤ 40) && lightO l)) := by
 refine kE Tryz.func16 a_law12_Light_ok a_law12_Light_cb fun E hE => ?_
 refine kW ?_
 refine kC (fun hb => ?_) fun hb => ?_
 ·have h : ¬ l.length ≤ 40 := by
   have : (l.length : Int) > 40 := by simpa [rowsO_len] using hb
   omega
  rw [decide_eq_false h]
  refine kW ?_
  refine AK.ret ⟨_, rfl, ?_⟩
  rfl
 have h : l.length ≤ 40 := by
  have : ¬ (l.length : Int) > 40 := by simpa [rowsO_len] using hb
  omega
 rw [decide_eq_true h]
 clear hb
 refine kW ?_
 refine AK.loopI (fun k : Nat => (frOf [(8, .lst .any 9 (rowsO l)), (9, .int .i64 (rowsO l).length), (10, .int .i64 k)], ⟨boxOf [], fun _ => 0⟩)) (fun k => k ≤ l.length ∧ lightO (l.take k) = true) (fun k => l.length - k) 0 ⟨Nat.zero_le _, rfl⟩ (Weak.intro ⟨kI, kI, kI, trivial⟩ trivial rfl rfl) fun k hk => ?_
 obtain ⟨hk, hL⟩ := hk
 refine kW ?_
 refine kC (fun hb => ?_) fun hb => ?_
 ·have hlt : k < l.length := by simpa [rowsO_len] using hb
  obtain ⟨o, hg⟩ : ∃ x, l[k]? = some x := ⟨_, List.getElem?_eq_getElem hlt⟩
  have hla := light_a o.v (hsb o (List.mem_of_getElem? hg))
  clear hb
  refine kW ?_
  refine kP [.c (obC o)] ?_ ?_
  ·((repeat' apply And.intro) <;> first | exact kD | (intro hgd; refine ⟨?_, kG⟩; (repeat' apply And.intro) <;> first | exact kD | skip) | skip)
   all_goals exact rowsO_at hg
  refine kW ?_
  cases hv : o.v.light_ with
  | false =>
   rw [hv] at hla
   have hno : lightO l = false := by
    unfold lightO
    rw [List.all_eq_false]
    exact ⟨o, List.mem_of_getElem? hg, by simp [hv]⟩
   rw [hno]
   refine kW ?_
   refine kQ [.v (.bool false)] ?_
   refine kCt ?_
   refine kW ?_
   refine AK.ret ⟨_, rfl, ?_⟩
   rfl
  | true =>
   rw [hv] at hla
   refine kW ?_
   refine kQ [.v (.bool true)] ?_
   refine kCf ?_
   refine kW ?_
   exact AK.lp ⟨k + 1, ⟨by omega, by rw [lightO_take hg, hL, hv]; rfl⟩, Weak.intro ⟨kI, kI, kU, trivial⟩ trivial rfl rfl, by omega⟩
 ·have hlt : k = l.length := by
   have : l.length ≤ k := by simpa [rowsO_len] using hb
   omega
  subst hlt
  rw [List.take_length] at hL
  rw [hL]
  refine AK.exit rfl ?_
  refine kW ?_
  refine AK.ret ⟨_, rfl, ?_⟩
  rfl
abbrev Ob.id (o : Ob) : OId := ⟨o.k, o.s, o.n⟩
def editsC (l : List Ob) : Clu := l.foldl (fun c o => (c.edit (wrongC o.id o.v) o.id o.v).2) Clu.new
theorem editsC_take {l : List Ob} {k : Nat} {o : Ob} (h : l[k]? = some o) : editsC (l.take (k + 1)) = ((editsC (l.take k)).edit (wrongC o.id o.v) o.id o.v).2 := by
 unfold editsC
 rw [List.take_add_one, h, List.foldl_append]
 rfl
theorem new_G : CluG Clu.new := ⟨⟨⟨.nil, (fun e he => by cases he), (by show (0 : Nat) ≤ _; omega)⟩, (fun e he => by cases he), (by show (0 : Int) ≤ 0 ∧ (0 : Int) ≤ _; omega), (by show (-1000 : Int) ≤ -1 ∧ (-1 : Int) ≤ 1000; omega), (fun n hn => by cases hn), (by show (0 : Nat) ≤ _; omega)⟩, fun e he => by cases he⟩
theorem editsC_G {l : List Ob} (hl : l.length ≤ 40) (hL : lightO l = true) (hsb : ∀ o ∈ l, o.v.sb) : ∀ k, k ≤ l.length → CluG (editsC (l.take k)) ∧ (editsC (l.take k)).has.length ≤ k ∧ (editsC (l.take k)).last ≤ k
 | 0, _ => ⟨new_G, Nat.le_refl _, Int.le_refl _⟩
 | k + 1, hk => by
  obtain ⟨h1, h2, h3⟩ := editsC_G hl hL hsb k (by omega)
  obtain ⟨o, hg⟩ : ∃ x, l[k]? = some x := ⟨_, List.getElem?_eq_getElem (by omega)⟩
  have hm := List.mem_of_getElem? hg
  have hv : o.v.light_ = true := List.all_eq_true.1 hL o hm
  have hz := V.light_size hv
  rw [editsC_take hg]
  obtain ⟨k1, k2, k3⟩ := h1.edit (i := o.id) (v := o.v) (by omega) (hsb o hm) (fun h => (V.check_good h).1) (by omega) (by omega)
  exact ⟨k1, by omega, by omega⟩
end Go.Proofs.YtgidajjjpeboeaaGreatDoor
namespace Go.Proofs.YtgidajjjpeboeaaGreatDoor
open Go.RowKit Go.Maps Go.MapKept Go.ChangeMaps
abbrev cluV (c : Clu) : List (Nat × List AV × Bool) := [(1000100, [.np 1900101 0, .int .i64 c.last, .lst .any 1 (rowsJ c.fails), .int .i64 c.fuse, .bool c.down, npC], false), (1900101, [mcA (rowsE c.has)], false)]
abbrev kmV (d : List ByteArray) : Nat × List AV × Bool := (1900102, [mcA (rowsK d)], false)
theorem edit_pow (c : Clu) (wr : Int) (i : OId) (v : V) : (c.edit wr i v).2.down = c.down ∧ (c.edit wr i v).2.fuse = c.fuse := by
 unfold Clu.edit
 split
 ·exact ⟨rfl, rfl⟩
 ·split <;> exact ⟨rfl, rfl⟩
theorem editsC_pow (l : List Ob) : (editsC l).down = false ∧ (editsC l).fuse = -1 := by
 have : ∀ (l : List Ob) (c : Clu), c.down = false → c.fuse = -1 → (l.foldl (fun c o => (c.edit (wrongC o.id o.v) o.id o.v).2) c).down = false ∧ (l.foldl (fun c o => (c.edit (wrongC o.id o.v) o.id o.v).2) c).fuse = -1 := by
  intro l
  induction l with
  | nil => intro c h k; exact ⟨h, k⟩
  | cons o l ih =>
   intro c h k
   obtain ⟨h1, h2⟩ := edit_pow c (wrongC o.id o.v) o.id o.v
   exact ih _ (h1.trans h) (h2.trans k)
 exact this l Clu.new rfl rfl
theorem objects_nd {cl : Clu} (h : CluOk cl) : (cl.objects.map fun o => (o.k, o.s, o.n)).Nodup := by
 unfold Clu.objects
 exact ((sortO_perm _).map obId).nodup_iff.2 (obE_nd h.nd)
theorem objects_len {cl : Clu} (h : CluOk cl) : cl.objects.length = cl.has.length := by
 unfold Clu.objects
 rw [(sortO_perm _).length_eq, List.length_map]
theorem relsOf_size {O : List Ob} (hob : ∀ o ∈ O, ObOk o) : ∀ s ∈ relsOf O, s.size ≤ 1000000 := fun s hs => by
 obtain ⟨o, ho, h⟩ := relsOf_mem.1 hs
 obtain ⟨n, hp⟩ := ownIs_some h
 obtain ⟨_, _, _, _, _, hn⟩ := ownP_iff.1 hp
 have h1 := (hob o ho).2.2.2
 dsimp only at hn
 rw [hn, idB_size] at h1
 omega
theorem both_all (cl : Clu) (h : CluG cl) (hd : cl.down = false) (rel : ByteArray) (hl : cl.objects.length ≤ 1000000) : ∃ (S : List Rc) (ok : Bool) (e : Int), (e = if ok = true then 0 else 35) ∧ S.length ≤ 1000000 ∧ allR cl rel = .tup [.lst .any 7 (rowsR S), .int .i64 e] ∧ AC Tryz.prog 22 [.lst .any 9 (rowsO cl.objects), .str rel] (.tup [.lst .any 7 (rowsR S), .bool ok]) := by
 have hR := refAll_a cl.objects h.objects hl rel
 unfold allR
 rw [hd, if_neg (by simp)]
 cases hok : allOk rel cl.objects with
 | true =>
  rw [hok, if_pos rfl] at hR
  rw [if_pos rfl]
  have hnd := recs_nd (objects_nd h.k.ok) hok
  refine ⟨sortR (fun r => r.rev) (recsOf rel cl.objects), true, 0, rfl, ?_, rfl, ?_⟩
  ·rw [(sortR_perm _ _).length_eq]
   have := recsOf_len rel cl.objects
   omega
  ·rw [← fold_sortR (fun r : Rc => r.rev) hnd]
   exact hR
 | false =>
  rw [hok, if_neg (by simp)] at hR
  rw [if_neg (by simp)]
  exact ⟨[], false, 35, rfl, (by show (0 : Nat) ≤ _; omega), rfl, hR⟩
def lightL (l : List Ob) : Bool := decide (l.length ≤ 40) && lightO l
set_option maxHeartbeats 4000000 in
theorem historyReads_a (l : List Ob) (rel : ByteArray) (hlen : l.length ≤ 4398046511104) (hsb : ∀ o ∈ l, o.v.sb ∧ o.k.size ≤ 140737488355328 ∧ o.s.size ≤ 140737488355328 ∧ o.n.size ≤ 140737488355328) : AC Tryz.prog 5 [.lst .any 9 (rowsO l), .str rel] (.bool true) := by
 have hA := awakeHs_a
 have hL : AC Tryz.prog 16 [.lst .any 9 (rowsO l)] (.bool (lightL l)) := lightO_a l (fun o ho => (hsb o ho).1) hlen
 refine kE Tryz.func5 a_law18_HistoryReads_ok a_law18_HistoryReads_cb fun E hE => ?_
 refine kW ?_
 refine kQ [.v (.bool (lightL l))] ?_
 refine kC (fun hb => ?_) fun hb => ?_
 ·refine kW ?_
  refine kQ [.v (.bool true)] ?_
  refine kW ?_
  refine AK.ret ⟨_, rfl, ?_⟩
  rfl
 have hll : lightL l = true := by
  cases h : lightL l with
  | true => rfl
  | false => rw [h] at hb; cases hb
 have hl40 : l.length ≤ 40 ∧ lightO l = true := by
  unfold lightL at hll
  rw [Bool.and_eq_true] at hll
  exact ⟨of_decide_eq_true hll.1, hll.2⟩
 clear hb
 have hG := editsC_G hl40.1 hl40.2 fun o ho => (hsb o ho).1
 have hN := newX_a
 refine kW ?_
 refine kQ [.s [] (cluX 1000100 1900101 Clu.new) (.np 1000100 0)] ?_
 refine kW ?_
 refine AK.loopI (fun k : Nat => (frOf [(1, .str rel), (5, .np 1000100 0), (36, .lst .any 9 (rowsO l)), (37, .int .i64 (rowsO l).length), (38, .int .i64 k)], ⟨boxOf (cluV (editsC (l.take k))), fun _ => 0⟩)) (fun k => k ≤ l.length) (fun k => l.length - k) 0 (Nat.zero_le _) (Weak.introN ⟨kI, kI, kI, kI, kI, trivial⟩ ⟨kJ, kJ, trivial⟩ rfl rfl ⟨rfl, rfl, trivial⟩) fun k hk => ?_
 refine kW ?_
 refine kC (fun hb => ?_) fun hb => ?_
 ·have hlt : k < l.length := by simpa [rowsO_len] using hb
  obtain ⟨o, hg⟩ : ∃ x, l[k]? = some x := ⟨_, List.getElem?_eq_getElem hlt⟩
  have hm := List.mem_of_getElem? hg
  have hv : o.v.light_ = true := List.all_eq_true.1 hl40.2 o hm
  have hz := V.light_size hv
  obtain ⟨k1, k2, k3⟩ := hG k hk
  obtain ⟨s1, s2⟩ := hsb o hm
  have hE := editX (editsC (l.take k)) k1 (i := o.id) s2 o.v (by omega) s1
  rw [← editsC_take hg] at hE
  clear hb
  refine kW ?_
  refine kP [.c (obC o)] ?_ ?_
  ·((repeat' apply And.intro) <;> first | exact kD | (intro hgd; refine ⟨?_, kG⟩; (repeat' apply And.intro) <;> first | exact kD | skip) | skip)
   all_goals exact rowsO_at hg
  refine kW ?_
  refine kQ [.s [1000100, 1900101] (cluX 1000100 1900101 (editsC (l.take (k + 1)))) (.int .i64 ((editsC (l.take k)).edit (wrongC o.id o.v) o.id o.v).1)] ?_
  refine kW ?_
  exact AK.lp ⟨k + 1, by omega, Weak.introN ⟨kI, kI, kI, kI, kU, trivial⟩ ⟨kJ, kJ, trivial⟩ rfl rfl ⟨rfl, rfl, trivial⟩, by omega⟩
 have hlt : k = l.length := by
  have : l.length ≤ k := by simpa [rowsO_len] using hb
  omega
 clear hb
 subst hlt
 refine AK.exit rfl ?_
 obtain ⟨g1, g2, g3⟩ := hG l.length (Nat.le_refl _)
 rw [List.take_length] at g1 g2 g3 ⊢
 obtain ⟨w1, w2⟩ := editsC_pow l
 generalize editsC l = cl at *
 have hOl := objects_len g1.k.ok
 have hob := g1.objects
 have hO := objectsX cl g1.k.ok
 have hall := allX cl g1 rel
 obtain ⟨S, ok, e, he, hSl, hR, hRef⟩ := both_all cl g1 w1 rel (by omega)
 rw [hR] at hall
 have hsame := sameR_a S hSl
 have hrel := releasesX cl g1
 have hrs := relsOf_size hob
 obtain ⟨q1, q2⟩ := keysL_spec (relsOf cl.objects)
 have hql := keysL_len (relsOf cl.objects)
 have hnl := nameS_len (relsOf cl.objects)
 have hrl := relsOf_len cl.objects
 have hno := newK_m
 refine kW ?_
 refine kQ [.s [1000100, 1900101] (cluX 1000100 1900101 cl) (.lst .any 9 (rowsO cl.objects))] ?_
 refine kW ?_
 refine kQ [.s [1000100, 1900101] (cluX 1000100 1900101 cl) (.tup [.lst .any 7 (rowsR S), .int .i64 e])] ?_
 refine kW ?_
 refine kQ [.v (.tup [.lst .any 7 (rowsR S), .bool ok])] ?_
 refine kW ?_
 refine kQ [.v (.bool true)] ?_
 refine kC (fun hb => ?_) fun hb => ?_
 ·exfalso
  cases ok <;> simp [he] at hb
 clear hb
 refine kW ?_
 refine kQ [.s [] [(1900102, [mcA (rowsK [])])] (.np 1900102 0)] ?_
 refine kW ?_
 refine AK.loopI (fun k : Nat => (frOf [(1, .str rel), (5, .np 1000100 0), (13, .np 1900102 0), (82, .lst .any 9 (rowsO cl.objects)), (83, .int .i64 (rowsO cl.objects).length), (84, .int .i64 k)], ⟨boxOf (kmV (keysL (relsOf (cl.objects.take k))) :: cluV cl), fun _ => 0⟩)) (fun k => k ≤ cl.objects.length) (fun k => cl.objects.length - k) 0 (Nat.zero_le _) (Weak.introN ⟨kI, kI, kI, kI, kI, kI, trivial⟩ ⟨kJ, kJ, kJ, trivial⟩ rfl rfl ⟨rfl, rfl, rfl, trivial⟩) fun k hk => ?_
 refine kW ?_
 refine kC (fun hb => ?_) fun hb => ?_
 ·have hlt : k < cl.objects.length := by simpa [rowsO_len] using hb
  obtain ⟨o, hg⟩ : ∃ x, cl.objects[k]? = some x := ⟨_, List.getElem?_eq_getElem hlt⟩
  have hom := hob o (List.mem_of_getElem? hg)
  have hst := relsOf_take hg
  have how := refOwner_a o.k o.s o.n hom.2.2.2
  clear hb
  refine kW ?_
  refine kP [.c (obC o)] ?_ ?_
  ·((repeat' apply And.intro) <;> first | exact kD | (intro hgd; refine ⟨?_, kG⟩; (repeat' apply And.intro) <;> first | exact kD | skip) | skip)
   all_goals exact rowsO_at hg
  cases hp : ownP o.k o.s o.n with
  | none =>
   rw [hp] at how
   have hro : relOf o = none := by unfold relOf; rw [hp]; rfl
   rw [hro] at hst
   have hst : relsOf (cl.objects.take (k + 1)) = relsOf (cl.objects.take k) := by rw [hst]; exact List.append_nil _
   refine kW ?_
   refine kQ [.v (.tup [.str ⟨#[]⟩, .int .i64 0, .bool false])] ?_
   refine kW ?_
   refine kCf ?_
   refine kW ?_
   exact AK.lp ⟨k + 1, by omega, Weak.introN ⟨kI, kI, kI, kI, kI, kU, trivial⟩ ⟨⟨_, rfl, leL_of_eq (by rw [hst])⟩, kJ, kJ, trivial⟩ rfl rfl ⟨rfl, rfl, rfl, trivial⟩, by omega⟩
  | some p =>
   rw [hp] at how
   obtain ⟨a, n⟩ := p
   have hro : relOf o = some a := by unfold relOf; rw [hp]; rfl
   rw [hro] at hst
   have hst : relsOf (cl.objects.take (k + 1)) = relsOf (cl.objects.take k) ++ [a] := hst
   have hkz : ∀ x ∈ keysL (relsOf (cl.objects.take k)), x.size ≤ 1000000 := fun x hx => relsOf_size (fun o ho => hob o (List.mem_of_mem_take ho)) x (((keysL_spec _).2 x).1 hx)
   have haz : a.size ≤ 1000000 := hrs a (relsOf_mem.2 ⟨o, List.mem_of_getElem? hg, ownIs_rel.2 hro⟩)
   have hset := setK_m hkz haz
   rw [← keysL_snoc, ← hst] at hset
   refine kW ?_
   refine kQ [.v (.tup [.str a, .int .i64 n, .bool true])] ?_
   refine kW ?_
   refine kCt ?_
   refine kW ?_
   refine kQ [.s [1900102] [(1900102, [mcA (rowsK (keysL (relsOf (cl.objects.take (k + 1)))))])] (.bool true)] ?_
   refine kW ?_
   exact AK.lp ⟨k + 1, by omega, Weak.introN ⟨kI, kI, kI, kI, kI, kU, trivial⟩ ⟨kJ, kJ, kJ, trivial⟩ rfl rfl ⟨rfl, rfl, rfl, trivial⟩, by omega⟩
 have hlt : k = cl.objects.length := by
  have : cl.objects.length ≤ k := by simpa [rowsO_len] using hb
  omega
 clear hb
 subst hlt
 refine AK.exit rfl ?_
 rw [List.take_length]
 have hNlt := nameS_lt (relsOf cl.objects)
 have hNm : ∀ s ∈ nameS (relsOf cl.objects), s ∈ keysL (relsOf cl.objects) := fun s hs => (q2 s).2 (nameS_mem.1 hs)
 have hkz : ∀ x ∈ keysL (relsOf cl.objects), x.size ≤ 1000000 := fun x hx => hrs x ((q2 x).1 hx)
 generalize nameS (relsOf cl.objects) = N at *
 generalize keysL (relsOf cl.objects) = D at *
 refine kW ?_
 refine kQ [.s [1000100, 1900101] (cluX 1000100 1900101 cl) (.lst .any 1 (rowsT N))] ?_
 refine kW ?_
 refine AK.loopI (fun k : Nat => (frOf [(1, .str rel), (5, .np 1000100 0), (13, .np 1900102 0), (19, .lst .any 1 (rowsT N)), (101, .lst .any 1 (rowsT N)), (102, .int .i64 (rowsT N).length), (103, .int .i64 k)], ⟨boxOf (kmV D :: cluV cl), fun _ => 0⟩)) (fun k => k ≤ N.length) (fun k => N.length - k) 0 (Nat.zero_le _) (Weak.introN ⟨kI, kI, kI, kI, kI, kI, kI, trivial⟩ ⟨kJ, kJ, kJ, trivial⟩ rfl rfl ⟨rfl, rfl, rfl, trivial⟩) fun k hk => ?_
 refine kW ?_
 refine kC (fun hb => ?_) fun hb => ?_
 ·have hlt : k < N.length := by simpa [rowsT_len] using hb
  obtain ⟨s, hg⟩ : ∃ x, N[k]? = some x := ⟨_, List.getElem?_eq_getElem hlt⟩
  have hsD := hNm s (List.mem_of_getElem? hg)
  have hget := getK_m hkz (hkz s hsD)
  rw [decide_eq_true hsD] at hget
  have hw0 : 0 < k → IntKind.i64.wrap ((k : Int) - 1) = ((k - 1 : Nat) : Int) := fun h => by rw [wrap_in (by omega) (by omega)]; omega
  have hpr : 0 < k → N[k - 1]? = some (N.getD (k - 1) s) := fun h => by
   rw [List.getD_eq_getElem?_getD, List.getElem?_eq_getElem (by omega)]
   rfl
  clear hb
  refine kW ?_
  refine kP [.c [.str s]] ?_ ?_
  ·((repeat' apply And.intro) <;> first | exact kD | (intro hgd; refine ⟨?_, kG⟩; (repeat' apply And.intro) <;> first | exact kD | skip) | skip)
   all_goals exact rowsT_at hg
  refine kW ?_
  refine kP [.s [1900102] [(1900102, [mcA (rowsK D)])] (.bool true), .c [.str (N.getD (k - 1) s)]] ?_ ?_
  ·((repeat' apply And.intro) <;> first | exact kD | (intro hgd; refine ⟨?_, kG⟩; (repeat' apply And.intro) <;> first | exact kD | skip) | skip)
   ·have h0 : 0 < k := by rw [Bool.and_eq_true] at hgd; simpa [gd] using hgd.2
    rw [hw0 h0]
    omega
   ·have h0 : 0 < k := by rw [Bool.and_eq_true] at hgd; simpa [gd] using hgd.2
    rw [hw0 h0, Int.toNat_natCast]
    exact rowsT_at (hpr h0)
  refine kC (fun hb => ?_) fun hb => ?_
  ·exfalso
   have h2 : (decide ((k : Int) > 0) && !Op.bytesLess (N.getD (k - 1) s).toList s.toList) = true := hb
   rw [Bool.and_eq_true] at h2
   have h0 : 0 < k := by simpa using h2.1
   have hlt2 : klt (N.getD (k - 1) s) s := by
    obtain ⟨i1, e1⟩ := List.getElem?_eq_some_iff.1 (hpr h0)
    obtain ⟨i2, e2⟩ := List.getElem?_eq_some_iff.1 hg
    have := List.pairwise_iff_getElem.1 hNlt (k - 1) k i1 i2 (by omega)
    rw [e1, e2] at this
    exact this
   unfold klt at hlt2
   rw [hlt2] at h2
   exact absurd h2.2 (by simp)
  clear hb
  refine kW ?_
  exact AK.lp ⟨k + 1, by omega, Weak.introN ⟨kI, kI, kI, kI, kI, kI, kU, trivial⟩ ⟨kJ, kJ, kJ, trivial⟩ rfl rfl ⟨rfl, rfl, rfl, trivial⟩, by omega⟩
 have hlt : k = N.length := by
  have : N.length ≤ k := by simpa [rowsT_len] using hb
  omega
 clear hb hlt
 refine AK.exit rfl ?_
 have hF := fuseX cl 0
 have hK2 : CluK { cl with fuse := 0 } := ⟨⟨g1.k.ok.1, g1.k.ok.2, g1.k.ok.3⟩, g1.k.ids, g1.k.last, by show (-1000 : Int) ≤ 0 ∧ (0 : Int) ≤ 1000; omega, g1.k.fails⟩
 have hDl := deleteX { cl with fuse := 0 } hK2 (i := ⟨⟨#[]⟩, ⟨#[]⟩, ⟨#[]⟩⟩) (keyI_of (by decide) (by decide) (by decide))
 have hD2 : ({ cl with fuse := 0 } : Clu).delete ⟨⟨#[]⟩, ⟨#[]⟩, ⟨#[]⟩⟩ = (31, { cl with fuse := 0, down := true }) := by
  unfold Clu.delete Clu.write
  simp
 rw [hD2] at hDl
 have hG3 : CluG { cl with fuse := 0, down := true } := ⟨⟨⟨g1.k.ok.1, g1.k.ok.2, g1.k.ok.3⟩, g1.k.ids, g1.k.last, by show (-1000 : Int) ≤ 0 ∧ (0 : Int) ≤ 1000; omega, g1.k.fails⟩, g1.ob⟩
 have hA3 := allX { cl with fuse := 0, down := true } hG3 rel
 have hR3 : allR { cl with fuse := 0, down := true } rel = .tup [.lst .any 7 [], .int .i64 31] := by unfold allR; rw [if_pos rfl]
 rw [hR3] at hA3
 have hA4 := allNil_a rel
 have hR4 := releasesNil_a
 have hlen4 := fun ty => lenK_m (ty := ty) D
 refine kW ?_
 refine kQ [.s [1000100, 1900101] (cluX 1000100 1900101 { cl with fuse := 0 }) (.tup [])] ?_
 refine kW ?_
 refine kQ [.s [1000100, 1900101] (cluX 1000100 1900101 { cl with fuse := 0, down := true }) (.int .i64 31)] ?_
 refine kW ?_
 refine kQ [.s [1000100, 1900101] (cluX 1000100 1900101 { cl with fuse := 0, down := true }) (.tup [.lst .any 7 [], .int .i64 31])] ?_
 refine kW ?_
 refine kQ [.v (.tup [.lst .any 7 [], .int .i64 2])] ?_
 refine kW ?_
 refine kP [.v (.bool true), .s [1900102] [(1900102, [mcA (rowsK D)])] (.int .i64 D.length), .v (.lst .any 1 [])] ?_ ?_
 ·((repeat' apply And.intro) <;> first | exact kD | (intro hgd; refine ⟨?_, kG⟩; (repeat' apply And.intro) <;> first | exact kD | skip) | skip)
  all_goals first | exact hlen4 _ | (simp [gd, rowsT_len, hql]; done)
 refine kW ?_
 refine AK.ret ⟨_, rfl, ?_⟩
 show AV.bool _ = _
 rw [hql]
 simp [rowsT_len]
end Go.Proofs.YtgidajjjpeboeaaGreatDoor
