/-
  The texts that the claim wants, one behind the other: part 17.
-/
import Derived.Test.YtdncaodccgfniaaDoorS16
import Derived.Test.YtdncaodccgfniaaDoorChecked
import Derived.KernelRfl
set_option linter.unusedSimpArgs false
set_option linter.unusedVariables false
namespace Go.Proofs.YtdncaodccgfniaaDoor
open Go.RowKit
def privN : List (Nat × List AV × Bool) → Prop
 | [] => True
 | (s, cs, _) :: L => match Nat.ble 1000000 s with
  | true => cs.all AV.noFrs = true ∧ privN L
  | false => privN L
theorem boxN_noFrs {L : List (Nat × AV)} {BL : List (Nat × List AV × Bool)} (hp : ptrOk L BL = true) (hpr : privN BL) : ∀ y ∈ BL, ∀ d ∈ y.2.1, d.noFrs = true := by
 intro y hy
 have h1 : ∀ z ∈ BL, (match Nat.ble 1000000 z.1 with | true => true | false => z.2.1.all AV.noFrs) = true := by
  unfold ptrOk at hp
  rw [Bool.and_eq_true] at hp
  exact List.all_eq_true.1 hp.2
 have h2 := h1 y hy
 cases hb : Nat.ble 1000000 y.1 with
 | false => rw [hb] at h2; exact List.all_eq_true.1 h2
 | true =>
  have h3 : ∀ (BL : List (Nat × List AV × Bool)), privN BL → ∀ y ∈ BL, Nat.ble 1000000 y.1 = true → y.2.1.all AV.noFrs = true := by
   intro BL
   induction BL with
   | nil => intro _ y hy; cases hy
   | cons z L ih =>
    intro hz y hy hb
    obtain ⟨s, cs, fz⟩ := z
    unfold privN at hz
    rcases List.mem_cons.1 hy with rfl | hy
    ·simp only at hb
     rw [hb] at hz
     exact hz.1
    ·split at hz
     ·exact ih hz.2 y hy hb
     ·exact ih hz y hy hb
  exact List.all_eq_true.1 (h3 BL hpr y hy hb)
theorem Weak.introN {fr : Fr} {st : St} {L : List (Nat × AV)} {BL : List (Nat × List AV × Bool)} {row : Nat → Nat} (h1 : slotsLe st fr L) (h2 : boxesLe st BL) (h3 : st.row = row) (h4 : ptrOk L BL = true) (h5 : privN BL) : Weak fr st (frOf L) ⟨boxOf BL, row⟩ := by
 intro E G a w h
 subst h3
 have hB' : ∀ id g, (if boxOf BL id = none then none else G.B id) = some g → G.B id = some g := fun id g hg => by
  split at hg
  ·cases hg
  ·exact hg
 have hx : G.less { G with B := fun id => if boxOf BL id = none then none else G.B id, φ := fun _ => none } := ⟨rfl, rfl, hB'⟩
 refine ⟨{ G with B := fun id => if boxOf BL id = none then none else G.B id, φ := fun _ => none },
  { defers := h.defers
    size := h.size
    slots := fun s x hs => ?_
    hold := h.hold
    ext := h.ext
    below := h.below
    box := fun id cs fz hs => ?_
    bnone := fun id hs => by simp only at hs ⊢; rw [if_pos hs]
    binj := fun id id' g h1 h2 => h.binj id id' g (hB' id g h1) (hB' id' g h2)
    row := fun s r hs => ⟨(h.row s r hs).1, fun id hid => (h.row s r hs).2 id (hB' id _ hid)⟩
    rinj := h.rinj
    rlt := h.rlt
    phi := fun k x hk => by cases hk
    phinj := fun k k' x x' hk => by cases hk
    pnone := fun _ _ => rfl
    small := h.small
    keep := fun id g h1 h2 => h.keep id g h1 (hB' id g h2) }⟩
 ·have hm := frOf_mem hs
  obtain ⟨v0, hv0, hvle⟩ := slotsLe_mem h1 _ hm
  have hp0 := h4
  unfold ptrOk at hp0
  rw [Bool.and_eq_true] at hp0
  have hp := List.all_eq_true.1 hp0.1 _ hm
  simp only at hp hvle
  refine (h.slots s v0 hv0).le h hx ?_ (fun id off g e hg => ?_) hvle
  ·cases x <;> first | rfl | exact hp
  ·subst e
   simp only [List.any_eq_true] at hp
   obtain ⟨y, hy, hyb⟩ := hp
   simp only
   rw [if_neg (boxOf_some hy (Nat.eq_of_beq_eq_true hyb))]
   exact hg
 ·have hm := boxOf_mem hs
  obtain ⟨ds, hds, hdle⟩ := boxesLe_mem h2 _ hm
  obtain ⟨g, k1, k2, t, vs, k3, k4, k5, k6⟩ := h.box id ds fz hds
  obtain ⟨q1, q2⟩ := cells_le h hx k4 k5 (boxN_noFrs h4 h5 _ hm) hdle
  refine ⟨g, ?_, k2, t, vs, k3, q1, q2, k6⟩
  simp only at hs ⊢
  rw [if_neg (by rw [hs]; simp)]
  exact k1
theorem AK.regW {P : Program} {E : Env} {Q : Exit → Fr → St → Prop} {k : List AItem} {fr fr' : Fr} {st st' : St} (rs : List RS) {l : List GI} {rs' : List RS} {p : Prop} {f0 : Fr} {s0 : St} (hp : p) (hw : Weak fr' st' f0 s0) (h : AK P E Q k f0 s0) (hs : arun P l rs fr st = some (rs', fr', st', p) := by rfl) (hm : P.follows .mixedOrders = true := by exact fw0) : AK P E Q (.c (.reg l) :: k) fr st := by
 intro hd mu c G ac w hc _ hC
 cases c with
 | region id ops dr =>
  simp only [codeAC] at hc
  split at hc
  ·rename_i l' hl
   split at hc
   ·rename_i hlex
    cases hc
    refine region_ok hm hl (lex_of hlex) hd hC hs hp fun G' a' w' hC' => ?_
    obtain ⟨G2, hC2⟩ := hw E G' a' w' hC'
    exact ⟨G2, f0, s0, hC2, h⟩
   ·split at hc <;> cases hc
  ·cases hc
 | cond x t e => simp only [codeAC] at hc; split at hc <;> cases hc
 | seq x y => simp only [codeAC] at hc; split at hc <;> cases hc
 | block id b => simp only [codeAC] at hc; split at hc <;> cases hc
 | loop b => simp only [codeAC] at hc; split at hc <;> cases hc
 | _ => cases hc
end Go.Proofs.YtdncaodccgfniaaDoor
namespace Go.Proofs.YtdncaodccgfniaaDoor
open Go.RowKit Go.Maps Go.MapKept Go.ChangeMaps
theorem someClu (neg : Bool) (g o : Nat) : NilRun Tryd.prog neg 24 (.pointer (some ⟨g, o, none⟩)) (.pointer none) false := by
 intro w x y hk
 have hg : (eqGuard (eqOp neg) 24 x y (.pointer (some ⟨g, o, none⟩)) (.pointer none)).run Tryd.prog w = .ok () w := by
  cases x <;> cases y <;> first | (cases hk; done) | (cases neg <;> simp [go_sem, eqGuard, eqOp])
 cases neg
 ·exact ⟨hg, by simp [go_sem, eqOp]⟩
 ·exact ⟨hg, by simp [go_sem, eqOp]⟩
theorem nilMet (neg : Bool) : NilRun Tryd.prog neg 45 (.pointer none) (.pointer none) true := by
 intro w x y hk
 have hg : (eqGuard (eqOp neg) 45 x y (.pointer none) (.pointer none)).run Tryd.prog w = .ok () w := by
  cases x <;> cases y <;> first | (cases hk; done) | (cases neg <;> simp [go_sem, eqGuard, eqOp])
 cases neg
 ·exact ⟨hg, by simp [go_sem, eqOp]⟩
 ·exact ⟨hg, by simp [go_sem, eqOp]⟩
abbrev npC : AV := .raw (.pointer none)
theorem add_a (k : Int) : AC Tryd.prog 18 [npC, .int .i64 k] (.int .i64 0) := by
 refine kE Tryd.func18 a_meter_Meter_Add_ok a_meter_Meter_Add_cb fun E hE => ?_
 refine kW ?_
 refine kP [] ?_ ?_
 ·((repeat' apply And.intro) <;> first | exact kD | (intro hgd; refine ⟨?_, kG⟩; (repeat' apply And.intro) <;> first | exact kD | skip) | skip)
  ·exact nilMet false
 refine kCt ?_
 refine kW ?_
 refine AK.ret ⟨_, rfl, ?_⟩
 rfl
theorem index0_a (n : Int) : AC Tryd.prog 47 [.lst .any 1 [], .int .i64 n] (.int .i64 (-1)) := by
 refine kE Tryd.func47 a_slices_Index_int_ok a_slices_Index_int_cb fun E hE => ?_
 refine kW ?_
 refine AK.loopI (fun _ : Unit => (frOf [(0, .lst .any 1 []), (1, .int .i64 n), (7, .int .i64 0), (8, .int .i64 0)], ⟨boxOf [], fun _ => 0⟩)) (fun _ => True) (fun _ => 0) () trivial (Weak.intro ⟨kI, kI, kI, kI, trivial⟩ trivial rfl rfl) fun _ _ => ?_
 refine kW ?_
 refine kCf ?_
 refine AK.exit rfl ?_
 refine kW ?_
 refine AK.ret ⟨_, rfl, ?_⟩
 rfl
theorem contains0_a (n : Int) : AC Tryd.prog 29 [.lst .any 1 [], .int .i64 n] (.bool false) := by
 refine kE Tryd.func29 a_slices_Contains_int_ok a_slices_Contains_int_cb fun E hE => ?_
 refine kW ?_
 refine kP [.v (.int .i64 (-1))] ?_ ?_
 ·((repeat' apply And.intro) <;> first | exact kD | (intro hgd; refine ⟨?_, kG⟩; (repeat' apply And.intro) <;> first | exact kD | skip) | skip)
  ·exact index0_a n
 refine kW ?_
 refine AK.ret ⟨_, rfl, ?_⟩
 rfl
abbrev cluC (m : Nat) (last fuse : Int) (down : Bool) : List AV := [.np m 0, .int .i64 last, .lst .any 1 [], .int .i64 fuse, .bool down, npC]
abbrev cluS (c m : Nat) (rows : List MRow) (last fuse : Int) (down : Bool) : List (Nat × List AV) := [(c, cluC m last fuse down), (m, [mcA rows])]
def wrE (fuse : Int) (down : Bool) : Int := if (down || decide (fuse = 0)) = true then 31 else 0
def wrF (fuse : Int) (down : Bool) : Int := if (down || decide (fuse = 0)) = true then fuse else if 0 < fuse then fuse - 1 else fuse
def wrD (fuse : Int) (down : Bool) : Bool := down || decide (fuse = 0)
theorem wr_dead {fuse : Int} {down : Bool} (h : down = true ∨ fuse = 0) : wrE fuse down = 31 ∧ wrF fuse down = fuse ∧ wrD fuse down = true := by
 have e : (down || decide (fuse = 0)) = true := by simpa using h
 refine ⟨?_, ?_, e⟩
 ·rw [wrE, if_pos e]
 ·rw [wrF, if_pos e]
theorem wr_live {fuse : Int} (h : fuse ≠ 0) : wrE fuse false = 0 ∧ wrF fuse false = (if 0 < fuse then fuse - 1 else fuse) ∧ wrD fuse false = false := by
 have e : (false || decide (fuse = 0)) = false := by simpa using h
 refine ⟨?_, ?_, e⟩
 ·rw [wrE, e]; rfl
 ·rw [wrF, e]; rfl
theorem write_m (rows : List MRow) (last fuse : Int) (down : Bool) (hf : -1000 ≤ fuse ∧ fuse ≤ 1000) : MS Tryd.prog 17 (cluS 2000000 2900001 rows last fuse down) [.np 2000000 0] (cluS 2000000 2900001 rows last (wrF fuse down) (wrD fuse down)) (.int .i64 (wrE fuse down)) := by
 have hcn := contains0_a 0
 refine MS.enter Tryd.func17 a_cluster_Cluster_write_ok a_cluster_Cluster_write_cb (by rfl) (by rfl) fun E hE => ?_
 show AK _ _ _ [.c b_cluster_Cluster_write] _ _
 rw [b_cluster_Cluster_write]
 cases down with
 | true =>
  obtain ⟨e1, e2, e3⟩ := wr_dead (fuse := fuse) (down := true) (.inl rfl)
  rw [e1, e2, e3]
  refine kW ?_
  refine kP [] ?_ ?_
  ·((repeat' apply And.intro) <;> first | exact kD | (intro hgd; refine ⟨?_, kG⟩; (repeat' apply And.intro) <;> first | exact kD | skip) | skip)
   ·exact fun g o => someClu false g o
  refine kCf ?_
  refine kW ?_
  refine kQ [] ?_
  refine kCt ?_
  refine kW ?_
  exact AK.ret ⟨⟨_, rfl, rfl⟩, ⟨_, rfl, rfl⟩, ⟨_, rfl, rfl⟩, trivial⟩
 | false =>
  refine kW ?_
  refine kP [] ?_ ?_
  ·((repeat' apply And.intro) <;> first | exact kD | (intro hgd; refine ⟨?_, kG⟩; (repeat' apply And.intro) <;> first | exact kD | skip) | skip)
   ·exact fun g o => someClu false g o
  refine kCf ?_
  refine kW ?_
  refine kQ [] ?_
  refine kC (fun hb => ?_) fun hb => ?_
  ·obtain ⟨e1, e2, e3⟩ := wr_dead (fuse := fuse) (down := false) (.inr (by simpa using hb))
   rw [e1, e2, e3]
   refine kW ?_
   exact AK.ret ⟨⟨_, rfl, rfl⟩, ⟨_, rfl, rfl⟩, ⟨_, rfl, rfl⟩, trivial⟩
  ·obtain ⟨e1, e2, e3⟩ := wr_live (fuse := fuse) (by simpa using hb)
   rw [e1, e2, e3]
   refine kW ?_
   refine kC (fun hb => ?_) fun hb => ?_
   ·have hl : 0 < fuse := by simpa using hb
    rw [if_pos hl, show fuse - 1 = IntKind.i64.wrap (fuse - 1) from (wrap_in (by omega) (by omega)).symm]
    refine kW ?_
    refine kQ [.v (.bool false)] ?_
    refine kW ?_
    refine AK.loopI (fun _ : Unit => (frOf [(0, .np 2000000 0), (3, .bool false), (4, .lst .nil 1 []), (46, .lst .any 1 []), (47, .int .i64 0), (48, .int .i64 0)], ⟨boxOf [(2000000, cluC 2900001 last (IntKind.i64.wrap (fuse - 1)) false, false), (2900001, [mcA rows], false)], fun _ => 0⟩)) (fun _ => True) (fun _ => 0) () trivial (Weak.introN ⟨kI, kI, kI, kI, kI, kI, trivial⟩ ⟨kJ, kJ, trivial⟩ rfl rfl ⟨rfl, rfl, trivial⟩) fun _ _ => ?_
    refine kW ?_
    refine kCf ?_
    refine AK.exit rfl ?_
    refine kW ?_
    refine AK.weak (Weak.introN (L := [(0, .np 2000000 0), (64, .bool false)]) (BL := [(2000000, cluC 2900001 last (IntKind.i64.wrap (fuse - 1)) false, false), (2900001, [mcA rows], false)]) ⟨kI, kI, trivial⟩ ⟨⟨_, rfl, .refl _, .refl _, .any .nil 1 [], .refl _, .refl _, .refl _, trivial⟩, kJ, trivial⟩ rfl rfl ⟨rfl, rfl, trivial⟩) ?_
    refine kCf ?_
    refine kW ?_
    exact AK.ret ⟨⟨_, rfl, rfl⟩, ⟨_, rfl, rfl⟩, ⟨_, rfl, rfl⟩, trivial⟩
   ·have hl : ¬ 0 < fuse := by simpa using hb
    rw [if_neg hl]
    refine kW ?_
    refine kQ [.v (.bool false)] ?_
    refine kW ?_
    refine AK.loopI (fun _ : Unit => (frOf [(0, .np 2000000 0), (3, .bool false), (4, .lst .nil 1 []), (46, .lst .any 1 []), (47, .int .i64 0), (48, .int .i64 0)], ⟨boxOf [(2000000, cluC 2900001 last fuse false, false), (2900001, [mcA rows], false)], fun _ => 0⟩)) (fun _ => True) (fun _ => 0) () trivial (Weak.introN ⟨kI, kI, kI, kI, kI, kI, trivial⟩ ⟨kJ, kJ, trivial⟩ rfl rfl ⟨rfl, rfl, trivial⟩) fun _ _ => ?_
    refine kW ?_
    refine kCf ?_
    refine AK.exit rfl ?_
    refine kW ?_
    refine AK.weak (Weak.introN (L := [(0, .np 2000000 0), (64, .bool false)]) (BL := [(2000000, cluC 2900001 last fuse false, false), (2900001, [mcA rows], false)]) ⟨kI, kI, trivial⟩ ⟨⟨_, rfl, .refl _, .refl _, .any .nil 1 [], .refl _, .refl _, .refl _, trivial⟩, kJ, trivial⟩ rfl rfl ⟨rfl, rfl, trivial⟩) ?_
    refine kCf ?_
    refine kW ?_
    exact AK.ret ⟨⟨_, rfl, rfl⟩, ⟨_, rfl, rfl⟩, ⟨_, rfl, rfl⟩, trivial⟩
end Go.Proofs.YtdncaodccgfniaaDoor
namespace Go.Proofs.YtdncaodccgfniaaDoor
set_option maxRecDepth 100000
def b_tree_byKey : ACode :=
 .seq (gQ [gP 2 0, gJ 4 0]) (.seq (gQ [gF 5 0 2, gL 6 5, gM 7 1, gC 8 31 [.s 6, .s 7], gM 4 8]) .ret)
def a_tree_byKey : AFn := ⟨2, 9, b_tree_byKey, [.tmp 4]⟩
theorem a_tree_byKey_ok : fnAF Tryd.prog [] Tryd.f21 = some a_tree_byKey := by kernel_rfl
theorem a_tree_byKey_cb : callable Tryd.prog 21 = true := by kernel_rfl
def b_slices_BinarySearchFunc_string : ACode :=
 .seq (gQ [gJ 6 0, ⟨gO, .mov 7 (.k (.bool false))⟩]) (.seq (gQ [gM 12 0, gH 13 false 12, gM 8 13]) (.seq (gQ [gM 14 8, gJ 9 0, gM 10 14]) (.seq (.block 0 (.loop (.seq (.seq (gQ [gM 15 9, gM 16 10, gV 17 .lss 15 16]) (.cond (.s 17) .skip (.exit 0))) (.block 1 (.seq (gQ [gM 18 9, gM 19 10, gV 20 .add 18 19, ⟨gO, .conv 21 .u64 (.s 20)⟩, ⟨gO, gB 22 .shr (.s 21) (.k (.int .u64 1))⟩, ⟨gO, .conv 23 .i64 (.s 22)⟩, gM 11 23]) (.seq (gQ [gM 24 2, gM 25 0, gM 26 11, gE 27 7 25 26, gA 28 7 27, gM 29 1, ⟨gO, .call (some 30) (.s 24) [.s 28, .s 29]⟩, gU 31 .lss 30 0]) (.cond (.s 31) (.reg [gM 32 11, gU 33 .add 32 1, gM 9 33]) (.reg [gM 34 11, gM 10 34])))))))) (.seq (gQ [gM 35 9, gM 36 9, gM 37 8, gV 38 .lss 36 37, gM 39 38, gN 39 true 40 2, gN 39 true 41 0, gN 39 true 42 9, ⟨some (39, true), .idx 43 7 (.s 41) (.s 42)⟩, ⟨some (39, true), .ld 44 7 true (.s 43)⟩, gN 39 true 45 1, ⟨some (39, true), .call (some 46) (.s 40) [.s 44, .s 45]⟩, ⟨some (39, true), .bin 47 .eql false (.s 46) (gI 0)⟩, ⟨gO, .pick 48 (.s 39) (.s 47) (.k (.bool false))⟩, gM 6 35, gM 7 48]) .ret))))
def a_slices_BinarySearchFunc_string : AFn := ⟨3, 49, b_slices_BinarySearchFunc_string, [.tmp 6, .tmp 7]⟩
theorem a_slices_BinarySearchFunc_string_ok : fnAF Tryd.prog [] Tryd.f20 = some a_slices_BinarySearchFunc_string := by kernel_rfl
theorem a_slices_BinarySearchFunc_string_cb : callable Tryd.prog 20 = true := by kernel_rfl
def b_strings_Compare : ACode :=
 .seq (gQ [gJ 4 0]) (.seq (gQ [gM 5 0, gM 6 1, gC 7 49 [.s 5, .s 6], gM 4 7]) .ret)
def a_strings_Compare : AFn := ⟨2, 8, b_strings_Compare, [.tmp 4]⟩
theorem a_strings_Compare_ok : fnAF Tryd.prog [] Tryd.f31 = some a_strings_Compare := by kernel_rfl
theorem a_strings_Compare_cb : callable Tryd.prog 31 = true := by kernel_rfl
end Go.Proofs.YtdncaodccgfniaaDoor
