/-
  tree.bare, walked.
-/
import Derived.Test.YtfnpjakekeojoaaGreatDoorVt1
import Derived.Test.YtfnpjakekeojoaaGreatDoorFrame
import Derived.BigQuiet
namespace Go.Proofs.YtfnpjakekeojoaaGreatDoor
set_option linter.unusedSimpArgs false
set_option linter.unusedVariables false
open Go.RowKit

theorem run_idx6 (cs : Array Value) (j : Nat) (b : Bool) (hj : j < 6) (hu : cs[j]? = some (.bool b)) (w : World) : (Instr.index 104 (.agg cs) (.int .i64 j)).run Tryz.prog w = .ok (.bool b) w := by
  have h1 : ((j : Int) < 6) := by omega
  have h2 : ¬ 6 ≤ j := by omega
  simp [Instr.index, asIntOf, run_underlying Tryz.underlying104, h1, part, Tryz.isAgg4, Tryz.sizeOf4, hu, h2]
theorem wpList_index_arr {P : Program} {ops : Array Oper} {rest : List Oper} {tmps : Array Value} {df : List Deferred} {w : World} {Q : Exit → Act → World → Prop} {d : Option Tmp} {ty0 : TypeId} {ps : String} {af : Array Edge}
    (p q : Tmp) (ty : TypeId) (cs : Array Value) (i u : Value) (hp : tmps.getD p undef = .agg cs) (hq : tmps.getD q undef = i) (hrun : (Instr.index ty (.agg cs) i).run P w = .ok u w)
    (h : wpList P ops Q rest (({ tmps := tmps, defers := df } : Act).put d u) w) :
    wpList P ops Q ({ dst := d, op := .index ty (.tmp p) (.tmp q), type := ty0, pos := ps, after := af, guard := none } :: rest) { tmps := tmps, defers := df } w := by
  refine wpList_plain rfl fun K hK => ?_
  have e1 : ({ tmps := tmps, defers := df } : Act).eval (.tmp p) = .agg cs := hp
  have e2 : ({ tmps := tmps, defers := df } : Act).eval (.tmp q) = i := hq
  unfold Oper.wp execOp
  simp only [e1, e2, Sem.run_bind, Sem.run_pure, Result.andThen_ok, hrun]
  exact hK _ _ h
/-- does a value have what is another kind's? -/
def bareAt (kind : Int) (b1 b2 b3 b4 b5 : Bool) (k : Nat) : Bool := (match k with | 1 => b1 | 2 => b2 | 3 => b3 | 4 => b4 | 5 => b5 | _ => false) && decide ((k : Int) ≠ kind)
def bareTo (kind : Int) (b1 b2 b3 b4 b5 : Bool) : Nat → Bool
  | 0 => true
  | k + 1 => bareTo kind b1 b2 b3 b4 b5 k && !bareAt kind b1 b2 b3 b4 b5 k
theorem bareTo_le {kind : Int} {b1 b2 b3 b4 b5 : Bool} {k : Nat} (h : bareAt kind b1 b2 b3 b4 b5 k = true) (n : Nat) : bareTo kind b1 b2 b3 b4 b5 (k + 1 + n) = false := by
  induction n with
  | zero => rw [Nat.add_zero, bareTo, h]; simp
  | succ n ih => rw [← Nat.add_assoc, bareTo, ih]; rfl
theorem bareTo_six (kind : Int) (b1 b2 b3 b4 b5 : Bool) : bareTo kind b1 b2 b3 b4 b5 6 = (!(b1 && decide ((1 : Int) ≠ kind)) && !(b2 && decide ((2 : Int) ≠ kind)) && !(b3 && decide ((3 : Int) ≠ kind)) && !(b4 && decide ((4 : Int) ≠ kind)) && !(b5 && decide ((5 : Int) ≠ kind))) := by
  simp only [bareTo, bareAt, Bool.true_and, Bool.false_and, Bool.not_false]
  rfl
set_option maxHeartbeats 4000000 in
set_option maxRecDepth 100000 in
theorem bare_any0 (kind : Int) (b : Bool) (n : Int) (s : ByteArray) (A1 A2 : Option Addr) (l m c1 c2 : Nat) (w : World) :
    Calls Tryz.prog 78 #[.agg #[.int .i64 kind, .bool b, .int .i64 n, .string s, .slice A1 l c1, .slice A2 m c2]] w fun e w' => e = .returned (.bool (bareTo kind b (n != 0) (!s.toList.isEmpty) (decide (0 < l)) (decide (0 < m)) 6 && (decide (0 ≤ kind) && decide (kind ≤ 5)))) ∧ Below w.heap.size w w' := by
  obtain ⟨R, hR⟩ : ∃ R, (bareTo kind b (n != 0) (!s.toList.isEmpty) (decide (0 < l)) (decide (0 < m)) 6 && (decide (0 ≤ kind) && decide (kind ≤ 5))) = R := ⟨_, rfl⟩
  rw [hR]
  go_enter Tryz.func78, Tryz.ntmps78
  go_wp2_with fail
  generalize (n != 0) = b2 at hR ⊢
  generalize (!s.toList.isEmpty) = b3 at hR ⊢
  generalize (decide (0 < l)) = b4 at hR ⊢
  generalize (decide (0 < m)) = b5 at hR ⊢
  have HR := Lib.hid hR
  clear hR
  obtain ⟨W, hW⟩ : ∃ W : World, W = (w.alloc (.cells #[.int .i64 kind, .bool b, .int .i64 n, .string s, .slice A1 l c1, .slice A2 m c2] 25)).alloc (.cells #[.bool false, .bool b, .bool b2, .bool b3, .bool b4, .bool b5] 104) := ⟨_, rfl⟩
  have k0 : W.cell? ⟨w.heap.size, 0, none⟩ = some (.int .i64 kind) := by
    rw [hW, World.cell?_alloc_lt _ _ _ (by simp), World.cell?_alloc_at _ _ _ _ rfl]; rfl
  have hbW : Below w.heap.size w W := by
    rw [hW]; exact ((Below.refl _ _).alloc (Nat.le_refl _) _).alloc (by simp) _
  rw [← hW]
  have HB := Lib.hid hbW
  clear hW hbW
  go_loopw [24] (fun i wr => ∃ k : Nat, k ≤ 6 ∧ i = .int .i64 k ∧ wr = W ∧ Hid (bareTo kind b b2 b3 b4 b5 k = true)) (fun i _ => 6 - (intOf i).toNat)
  case atStart => exact ⟨0, by omega, rfl, rfl, Lib.hid rfl⟩
  case round =>
    obtain ⟨k, hk, rfl, rfl, hT⟩ := hrel
    have hT' := hT.out
    clear hT
    have hcs : k = 0 ∨ k = 1 ∨ k = 2 ∨ k = 3 ∨ k = 4 ∨ k = 5 ∨ k = 6 := by omega
    have hst : k < 6 → bareAt kind b b2 b3 b4 b5 k = false → Hid (bareTo kind b b2 b3 b4 b5 (k + 1) = true) := fun _ h => Lib.hid (by rw [bareTo, hT', h]; rfl)
    have hbad : k < 6 → bareAt kind b b2 b3 b4 b5 k = true → R = false := fun h1 h => by
      rw [← HR.out]
      have := bareTo_le h (5 - k)
      rw [show k + 1 + (5 - k) = 6 by omega] at this
      rw [this]; rfl
    rcases hcs with rfl | rfl | rfl | rfl | rfl | rfl | rfl
    · have H := hst (by omega) rfl
      clear hst hbad hT'
      go_wp2_with (refine wpList_index_arr 23 24 104 _ _ (.bool false) rfl rfl (run_idx6 _ 0 false (by omega) rfl _) ?_)
      go_roundw
      case rel => exact ⟨1, by omega, by go_num, trivial, H⟩
      case measure => simp [intOf]
    · cases b with
      | false =>
        have H := hst (by omega) rfl
        clear hst hbad hT'
        go_wp2_with (refine wpList_index_arr 23 24 104 _ _ (.bool false) rfl rfl (run_idx6 _ 1 false (by omega) rfl _) ?_)
        go_roundw
        case rel => exact ⟨2, by omega, by go_num, trivial, H⟩
        case measure => simp [intOf]
      | true =>
        by_cases hkd : (1 : Int) = kind
        · have H := hst (by omega) (by rw [bareAt]; simp [hkd])
          have hkd' : ((1 : Int) != kind) = false := by simp [hkd]
          clear hst hbad hT' hkd
          go_wp2_with (refine wpList_index_arr 23 24 104 _ _ (.bool true) rfl rfl (run_idx6 _ 1 true (by omega) rfl _) ?_)
          go_roundw
          case rel => exact ⟨2, by omega, by go_num, trivial, H⟩
          case measure => simp [intOf]
        · have H := hbad (by omega) (by rw [bareAt]; simp [hkd])
          have hkd' : ((1 : Int) != kind) = true := by simp [hkd]
          clear hst hbad hT' hkd
          go_wp2_with (refine wpList_index_arr 23 24 104 _ _ (.bool true) rfl rfl (run_idx6 _ 1 true (by omega) rfl _) ?_)
          go_ret
          exact ⟨by rw [H]; rfl, HB.out⟩
    · cases b2 with
      | false =>
        have H := hst (by omega) rfl
        clear hst hbad hT'
        go_wp2_with (refine wpList_index_arr 23 24 104 _ _ (.bool false) rfl rfl (run_idx6 _ 2 false (by omega) rfl _) ?_)
        go_roundw
        case rel => exact ⟨3, by omega, by go_num, trivial, H⟩
        case measure => simp [intOf]
      | true =>
        by_cases hkd : (2 : Int) = kind
        · have H := hst (by omega) (by rw [bareAt]; simp [hkd])
          have hkd' : ((2 : Int) != kind) = false := by simp [hkd]
          clear hst hbad hT' hkd
          go_wp2_with (refine wpList_index_arr 23 24 104 _ _ (.bool true) rfl rfl (run_idx6 _ 2 true (by omega) rfl _) ?_)
          go_roundw
          case rel => exact ⟨3, by omega, by go_num, trivial, H⟩
          case measure => simp [intOf]
        · have H := hbad (by omega) (by rw [bareAt]; simp [hkd])
          have hkd' : ((2 : Int) != kind) = true := by simp [hkd]
          clear hst hbad hT' hkd
          go_wp2_with (refine wpList_index_arr 23 24 104 _ _ (.bool true) rfl rfl (run_idx6 _ 2 true (by omega) rfl _) ?_)
          go_ret
          exact ⟨by rw [H]; rfl, HB.out⟩
    · cases b3 with
      | false =>
        have H := hst (by omega) rfl
        clear hst hbad hT'
        go_wp2_with (refine wpList_index_arr 23 24 104 _ _ (.bool false) rfl rfl (run_idx6 _ 3 false (by omega) rfl _) ?_)
        go_roundw
        case rel => exact ⟨4, by omega, by go_num, trivial, H⟩
        case measure => simp [intOf]
      | true =>
        by_cases hkd : (3 : Int) = kind
        · have H := hst (by omega) (by rw [bareAt]; simp [hkd])
          have hkd' : ((3 : Int) != kind) = false := by simp [hkd]
          clear hst hbad hT' hkd
          go_wp2_with (refine wpList_index_arr 23 24 104 _ _ (.bool true) rfl rfl (run_idx6 _ 3 true (by omega) rfl _) ?_)
          go_roundw
          case rel => exact ⟨4, by omega, by go_num, trivial, H⟩
          case measure => simp [intOf]
        · have H := hbad (by omega) (by rw [bareAt]; simp [hkd])
          have hkd' : ((3 : Int) != kind) = true := by simp [hkd]
          clear hst hbad hT' hkd
          go_wp2_with (refine wpList_index_arr 23 24 104 _ _ (.bool true) rfl rfl (run_idx6 _ 3 true (by omega) rfl _) ?_)
          go_ret
          exact ⟨by rw [H]; rfl, HB.out⟩
    · cases b4 with
      | false =>
        have H := hst (by omega) rfl
        clear hst hbad hT'
        go_wp2_with (refine wpList_index_arr 23 24 104 _ _ (.bool false) rfl rfl (run_idx6 _ 4 false (by omega) rfl _) ?_)
        go_roundw
        case rel => exact ⟨5, by omega, by go_num, trivial, H⟩
        case measure => simp [intOf]
      | true =>
        by_cases hkd : (4 : Int) = kind
        · have H := hst (by omega) (by rw [bareAt]; simp [hkd])
          have hkd' : ((4 : Int) != kind) = false := by simp [hkd]
          clear hst hbad hT' hkd
          go_wp2_with (refine wpList_index_arr 23 24 104 _ _ (.bool true) rfl rfl (run_idx6 _ 4 true (by omega) rfl _) ?_)
          go_roundw
          case rel => exact ⟨5, by omega, by go_num, trivial, H⟩
          case measure => simp [intOf]
        · have H := hbad (by omega) (by rw [bareAt]; simp [hkd])
          have hkd' : ((4 : Int) != kind) = true := by simp [hkd]
          clear hst hbad hT' hkd
          go_wp2_with (refine wpList_index_arr 23 24 104 _ _ (.bool true) rfl rfl (run_idx6 _ 4 true (by omega) rfl _) ?_)
          go_ret
          exact ⟨by rw [H]; rfl, HB.out⟩
    · cases b5 with
      | false =>
        have H := hst (by omega) rfl
        clear hst hbad hT'
        go_wp2_with (refine wpList_index_arr 23 24 104 _ _ (.bool false) rfl rfl (run_idx6 _ 5 false (by omega) rfl _) ?_)
        go_roundw
        case rel => exact ⟨6, by omega, by go_num, trivial, H⟩
        case measure => simp [intOf]
      | true =>
        by_cases hkd : (5 : Int) = kind
        · have H := hst (by omega) (by rw [bareAt]; simp [hkd])
          have hkd' : ((5 : Int) != kind) = false := by simp [hkd]
          clear hst hbad hT' hkd
          go_wp2_with (refine wpList_index_arr 23 24 104 _ _ (.bool true) rfl rfl (run_idx6 _ 5 true (by omega) rfl _) ?_)
          go_roundw
          case rel => exact ⟨6, by omega, by go_num, trivial, H⟩
          case measure => simp [intOf]
        · have H := hbad (by omega) (by rw [bareAt]; simp [hkd])
          have hkd' : ((5 : Int) != kind) = true := by simp [hkd]
          clear hst hbad hT' hkd
          go_wp2_with (refine wpList_index_arr 23 24 104 _ _ (.bool true) rfl rfl (run_idx6 _ 5 true (by omega) rfl _) ?_)
          go_ret
          exact ⟨by rw [H]; rfl, HB.out⟩
    · have hR2 := HR.out
      rw [hT', Bool.true_and] at hR2
      clear hst hbad hT' HR
      by_cases h0 : 0 ≤ kind
      · by_cases h5 : kind ≤ 5
        · have hRt : R = true := by rw [← hR2]; simp [h0, h5]
          clear hR2
          go_wp2
          go_ret
          exact ⟨by first | rfl | (rw [hRt]; rfl), HB.out⟩
        · have hRf : R = false := by rw [← hR2]; simp [h5]
          clear hR2
          go_wp2
          go_ret
          exact ⟨by first | rfl | (rw [hRf]; rfl), HB.out⟩
      · have hRf : R = false := by rw [← hR2]; simp [h0]
        clear hR2
        go_wp2
        go_ret
        exact ⟨by first | rfl | (rw [hRf]; rfl), HB.out⟩
end Go.Proofs.YtfnpjakekeojoaaGreatDoor
