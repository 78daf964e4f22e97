/-
  The walks of the functions on revisions, third part.
-/
import Derived.Test.YtehmenkofhdmfaaHistB
namespace Go.Proofs.Ytehmenkofhdmfaa
set_option linter.unusedSimpArgs false
set_option linter.unusedVariables false
open Go.RowKit

theorem base_none {l : List Rec} {k : Nat} {r : Rec} (h : l[k]? = some r) (c : r.st = 5) : base (l.take (k + 1)) = none := by
  rw [base, withS_hit h (by simp [c])]; simp [c]
theorem base_some {l : List Rec} {k : Nat} {r : Rec} (h : l[k]? = some r) (c : r.st = 2 ∨ r.st = 3) : base (l.take (k + 1)) = some r := by
  rw [base, withS_hit h (by rcases c with c | c <;> simp [c])]; rcases c with c | c <;> simp [c]
theorem base_miss {l : List Rec} {k : Nat} {r : Rec} (h : l[k]? = some r) (c2 : r.st ≠ 2) (c3 : r.st ≠ 3) (c5 : r.st ≠ 5) : base (l.take (k + 1)) = base (l.take k) := by
  rw [base, withS_miss h (by simp [c2, c3, c5])]; rfl

set_option maxHeartbeats 1000000 in
theorem refBase_any (v : Value) (l : List Rec) (w : World) (hs : Sl 7 RecR w w.heap.size v l) (hl : l.length ≤ 1000000) :
    Calls Try.prog 14 #[v] w fun e w' =>
      e = .returned (.tuple #[.agg #[.string ((base l).getD Rec.zero).rel, .int .i64 ((base l).getD Rec.zero).rev, .int .i64 ((base l).getD Rec.zero).st, .int .i64 ((base l).getD Rec.zero).cmd, .string ((base l).getD Rec.zero).ch, .string ((base l).getD Rec.zero).va, .string ((base l).getD Rec.zero).ma], .bool (base l).isSome]) ∧ Below w.heap.size w w' := by
  obtain ⟨A, cap, rfl, hc, hs⟩ := hs
  have HK := Lib.hid (Blk.new w 37 #[.string ⟨#[]⟩, .int .i64 0, .int .i64 0, .int .i64 0, .string ⟨#[]⟩, .string ⟨#[]⟩, .string ⟨#[]⟩] rfl)
  have hs1 : SlAt 7 RecR (w.alloc (Obj.cells #[.string ⟨#[]⟩, .int .i64 0, .int .i64 0, .int .i64 0, .string ⟨#[]⟩, .string ⟨#[]⟩, .string ⟨#[]⟩] 37)) w.heap.size A l :=
    hs.below ((Below.refl _ _).alloc (Nat.le_refl _) _)
  go_enter Try.func14, Try.ntmps14
  go_wp2
  go_loop [4] (fun i => ∃ k : Nat, k ≤ l.length ∧ i = .int .i64 ((k : Int) - 1) ∧ Hid (base l = base (l.take k))) (fun i => (intOf i + 1).toNat)
  case atStart => exact ⟨l.length, by omega, rfl, Lib.hid (by rw [List.take_length])⟩
  case round =>
    obtain ⟨k, hk, rfl, hw⟩ := hrel
    rcases k with _ | k
    · have H0 := Lib.hid (show base l = none by rw [hw.out]; rfl)
      go_wp2_with ((with_reducible refine wpList_store_row 2 37 37 (w.heap.size) 37 #[.string ⟨#[]⟩, .int .i64 0, .int .i64 0, .int .i64 0, .string ⟨#[]⟩, .string ⟨#[]⟩, .string ⟨#[]⟩] #[.string ⟨#[]⟩, .int .i64 0, .int .i64 0, .int .i64 0, .string ⟨#[]⟩, .string ⟨#[]⟩, .string ⟨#[]⟩] ?_ ?_ ?_ ?_ ?_ ?_ ?_); rfl; rfl; exact HK.out; rfl; exact Rec.one0; kernel_rfl)
      refine bodyPost_ret (results_cell_tmp_row rfl _ _ _ _ _ _ rfl (HK.out.set _) Try.underlying37 rfl (by kernel_rfl)) rfl ⟨by rw [H0.out]; rfl, ?_⟩
      exact below_setRow ((Below.refl _ _).alloc (Nat.le_refl _) _) (Nat.le_refl _) _
    · obtain ⟨b, o, x, rfl, hb, hg, c0, c1, c2, c3, c4, c5, c6⟩ := recs_at hs1 (show k < l.length by omega)
      have HG := Lib.hid hg
      clear hg hs hs1
      have e1 : ((k + 1 : Nat) : Int) - 1 = k := by omega
      rw [e1]
      clear e1
      by_cases h5 : x.st = 5
      · have H0 := Lib.hid (show base l = none by rw [hw.out, base_none HG.out h5])
        have h5' : (x.st == 5) = true := by simp [h5]
        clear h5
        go_wp2_with ((with_reducible refine wpList_store_row 2 18 37 (w.heap.size) 37 #[.string ⟨#[]⟩, .int .i64 0, .int .i64 0, .int .i64 0, .string ⟨#[]⟩, .string ⟨#[]⟩, .string ⟨#[]⟩] #[.string ⟨#[]⟩, .int .i64 0, .int .i64 0, .int .i64 0, .string ⟨#[]⟩, .string ⟨#[]⟩, .string ⟨#[]⟩] ?_ ?_ ?_ ?_ ?_ ?_ ?_); rfl; rfl; exact HK.out; rfl; exact Rec.one0; kernel_rfl)
        refine bodyPost_ret (results_cell_tmp_row rfl _ _ _ _ _ _ rfl (HK.out.set _) Try.underlying37 rfl (by kernel_rfl)) rfl ⟨by rw [H0.out]; rfl, ?_⟩
        exact below_setRow ((Below.refl _ _).alloc (Nat.le_refl _) _) (Nat.le_refl _) _
      · have h5' : (x.st == 5) = false := by simp [h5]
        by_cases h2 : x.st = 2
        · have H0 := Lib.hid (show base l = some x by rw [hw.out, base_some HG.out (.inl h2)])
          have h2' : (x.st == 2) = true := by simp [h2]
          clear h5 h2
          go_wp2_with ((with_reducible refine wpList_store_row 2 36 37 (w.heap.size) 37 #[.string ⟨#[]⟩, .int .i64 0, .int .i64 0, .int .i64 0, .string ⟨#[]⟩, .string ⟨#[]⟩, .string ⟨#[]⟩] #[.string (x).rel, .int .i64 (x).rev, .int .i64 (x).st, .int .i64 (x).cmd, .string (x).ch, .string (x).va, .string (x).ma] ?_ ?_ ?_ ?_ ?_ ?_ ?_); rfl; rfl; exact HK.out; rfl; exact Rec.one x; kernel_rfl)
          refine bodyPost_ret (results_cell_tmp_row rfl _ _ _ _ _ _ rfl (HK.out.set _) Try.underlying37 rfl (by kernel_rfl)) rfl ⟨by rw [H0.out]; rfl, ?_⟩
          exact below_setRow ((Below.refl _ _).alloc (Nat.le_refl _) _) (Nat.le_refl _) _
        · have h2' : (x.st == 2) = false := by simp [h2]
          by_cases h3 : x.st = 3
          · have H0 := Lib.hid (show base l = some x by rw [hw.out, base_some HG.out (.inr h3)])
            have h3' : (x.st == 3) = true := by simp [h3]
            clear h5 h2 h3
            go_wp2_with ((with_reducible refine wpList_store_row 2 36 37 (w.heap.size) 37 #[.string ⟨#[]⟩, .int .i64 0, .int .i64 0, .int .i64 0, .string ⟨#[]⟩, .string ⟨#[]⟩, .string ⟨#[]⟩] #[.string (x).rel, .int .i64 (x).rev, .int .i64 (x).st, .int .i64 (x).cmd, .string (x).ch, .string (x).va, .string (x).ma] ?_ ?_ ?_ ?_ ?_ ?_ ?_); rfl; rfl; exact HK.out; rfl; exact Rec.one x; kernel_rfl)
            refine bodyPost_ret (results_cell_tmp_row rfl _ _ _ _ _ _ rfl (HK.out.set _) Try.underlying37 rfl (by kernel_rfl)) rfl ⟨by rw [H0.out]; rfl, ?_⟩
            exact below_setRow ((Below.refl _ _).alloc (Nat.le_refl _) _) (Nat.le_refl _) _
          · have h3' : (x.st == 3) = false := by simp [h3]
            have HM := Lib.hid (base_miss HG.out h2 h3 h5)
            clear h5 h2 h3
            go_wp2
            go_round
            case rel => exact ⟨k, by omega, by go_num, Lib.hid (by rw [hw.out, HM.out])⟩
            case measure => simp [intOf]

theorem info_rec29 : (Try.prog.info? 29).map (fun i => (i.zero, i.size, i.bytes)) = some (some (.agg #[.string ⟨#[]⟩, .int .i64 0, .int .i64 0, .int .i64 0, .string ⟨#[]⟩, .string ⟨#[]⟩, .string ⟨#[]⟩]), 7, 88) := by kernel_rfl
theorem info_rec37 : (Try.prog.info? 37).map (fun i => (i.zero, i.size, i.bytes)) = some (some (.agg #[.string ⟨#[]⟩, .int .i64 0, .int .i64 0, .int .i64 0, .string ⟨#[]⟩, .string ⟨#[]⟩, .string ⟨#[]⟩]), 7, 88) := by kernel_rfl

set_option maxHeartbeats 1000000 in
theorem to_any (v : Value) (l : List Rec) (w : World) (hs : Sl 7 RecR w w.heap.size v l) (hl : l.length ≤ 1000000) :
    Calls Try.prog 10 #[v] w fun e w' =>
      ∃ v', e = .returned v' ∧ Own 29 7 RecR w' w.heap.size v' l ∧ Below w.heap.size w w' := by
  obtain ⟨A, cap, rfl, hc, hs⟩ := hs
  go_enter Try.func10, Try.ntmps10
  go_wp2
  go_loopw [3, 8] (fun v i wr => ∃ k : Nat, k ≤ l.length ∧ i = .int .i64 k ∧ Own 29 7 RecR wr w.heap.size v (l.take k) ∧ Below w.heap.size w wr) (fun _ i _ => l.length - (intOf i).toNat)
  case atStart => exact ⟨0, by omega, rfl, Own.nil _ _ _ _ _, Below.refl _ _⟩
  case round =>
    obtain ⟨k, hk, rfl, hown, hB⟩ := hrel
    by_cases hlt : k < l.length
    · obtain ⟨b, o, x, rfl, hb, hg, c0, c1, c2, c3, c4, c5, c6⟩ := recs_at (hs.below hB) hlt
      have HG := Lib.hid hg
      have HO := Lib.hid hown
      clear hg hs hown
      have hlk : (l.take k).length = k := by simp; omega
      have HL := Lib.hid hlk
      have hsz := hB.size
      clear hlk
      go_wp2_with (at_builtin; go_must (refine wpList_append1 12 14 25 29 (.agg #[.string ⟨#[]⟩, .int .i64 0, .int .i64 0, .int .i64 0, .string ⟨#[]⟩, .string ⟨#[]⟩, .string ⟨#[]⟩]) 7 88 w.heap.size _ (l.take k) x (wr.heap.size + 1) #[.string (x).rel, .int .i64 (x).rev, .int .i64 (x).st, .int .i64 (x).cmd, .string (x).ch, .string (x).va, .string (x).ma] Try.underlying25 info_rec29 rfl (by decide) rfl (HO.out.alloc _ |>.alloc _) rfl (Blk.new _ _ _ (by simp)) rfl rfl (Rec.one x) (by rw [HL.out]; unfold maxLen; omega) (by rw [HL.out]; omega) (by simp; omega) ?_); intro v' w' hown' hgr')
      go_wp2
      go_roundw
      case rel => exact ⟨k + 1, by omega, by go_num, by rw [List.take_add_one, HG.out]; exact hown', below_own ((hB.alloc (by omega) _).alloc (by simp; omega) _) (HO.out.alloc _ |>.alloc _) hgr' (by simp; omega)⟩
      case measure => simp [intOf]; omega
    · go_wp2
      go_ret
      have : k = l.length := by omega
      subst this
      exact ⟨_, rfl, by rw [List.take_length] at hown; exact hown, hB⟩

/-- 'to go': the oldest ones, but for the one that stands and pending ones, till no more than so many are left -/
def oldFrom (b : Option Rec) (keep : Int) : List Rec → Int → List Rec → List Rec
  | [], _, out => out
  | r :: rest, left, out => if left ≤ keep then out else if r.st = 1 ∨ (b.isSome = true ∧ r.rev = (b.getD Rec.zero).rev) then oldFrom b keep rest left out else oldFrom b keep rest (left - 1) (out ++ [r])
def old (l : List Rec) (keep : Int) : List Rec := oldFrom (base l) (max keep 1) l l.length []
theorem oldFrom_len (b : Option Rec) (keep : Int) : ∀ (l : List Rec) (left : Int) (out : List Rec), (oldFrom b keep l left out).length ≤ out.length + l.length := by
  intro l
  induction l with
  | nil => intro left out; simp [oldFrom]
  | cons r rest ih =>
    intro left out
    rw [oldFrom]
    split
    · simp
    · split
      · have := ih left out; simp; omega
      · have := ih (left - 1) (out ++ [r]); simp at this ⊢; omega
theorem drop_at {l : List Rec} {k : Nat} {r : Rec} (h : l[k]? = some r) : l.drop k = r :: l.drop (k + 1) := by
  obtain ⟨hk, rfl⟩ := List.getElem?_eq_some_iff.1 h
  exact List.drop_eq_getElem_cons hk

theorem oldFrom_stop {b : Option Rec} {keep left : Int} {l : List Rec} {out : List Rec} (h : left ≤ keep) : oldFrom b keep l left out = out := by
  cases l <;> simp [oldFrom, h]
theorem oldFrom_skip {b : Option Rec} {keep left : Int} {l rest : List Rec} {r : Rec} {out : List Rec} (h : ¬ left ≤ keep) (hl : l = r :: rest) (c : r.st = 1 ∨ (b.isSome = true ∧ r.rev = (b.getD Rec.zero).rev)) : oldFrom b keep l left out = oldFrom b keep rest left out := by
  rw [hl, oldFrom, if_neg h, if_pos c]
theorem oldFrom_take {b : Option Rec} {keep left : Int} {l rest : List Rec} {r : Rec} {out : List Rec} (h : ¬ left ≤ keep) (hl : l = r :: rest) (c : r.st ≠ 1) (c2 : b.isSome = false ∨ r.rev ≠ (b.getD Rec.zero).rev) : oldFrom b keep l left out = oldFrom b keep rest (left - 1) (out ++ [r]) := by
  rw [hl, oldFrom, if_neg h, if_neg]
  rintro (h1 | ⟨h1, h2⟩)
  · exact c h1
  · rcases c2 with c2 | c2
    · rw [c2] at h1; cases h1
    · exact c2 h2

set_option maxHeartbeats 4000000 in
theorem old_any (v : Value) (l : List Rec) (keep : Int) (w : World) (hs : Sl 7 RecR w w.heap.size v l) (hl : l.length ≤ 1000000) :
    Calls Try.prog 13 #[v, .int .i64 keep] w fun e w' =>
      ∃ v', e = .returned v' ∧ Own 29 7 RecR w' w.heap.size v' (old l keep) ∧ Below w.heap.size w w' := by
  have HS := Lib.hid hs
  obtain ⟨A, cap, rfl, hc, hs⟩ := hs
  go_enter Try.func13, Try.ntmps13
  go_wp2_with fail
  refine (base_any _ l _ HS.out hl).mono ?_
  rintro e w1 ⟨rfl, hb⟩
  generalize hr : base l = bb
  have HR := Lib.hid hr
  clear hr
  generalize hr : bb.getD Rec.zero = br
  have HR2 := Lib.hid hr
  clear hr
  generalize hr : bb.isSome = bo
  have HR3 := Lib.hid hr
  clear hr HS
  have hs1 := (hs.below hb)
  have hsz1 := hb.size
  go_wp2_with fail
  go_loopw [5, 17] (fun v i wr => ∃ (k : Nat) (out : List Rec), k ≤ l.length ∧ i = .int .i64 k ∧ out.length ≤ k ∧ Own 29 7 RecR wr (w1.heap.size + 1) v out ∧ Hid (old l keep = oldFrom bb (max keep 1) (l.drop k) ((l.length : Int) - out.length) out) ∧ Below (w1.heap.size + 1) (w1.alloc (Obj.cells #[.string (br).rel, .int .i64 (br).rev, .int .i64 (br).st, .int .i64 (br).cmd, .string (br).ch, .string (br).va, .string (br).ma] 29)) wr) (fun _ i _ => l.length - (intOf i).toNat)
  case atStart => exact ⟨0, [], by omega, rfl, by simp, Own.nil _ _ _ _ _, Lib.hid (by rw [old, HR.out]; simp), Below.refl _ _⟩
  case round =>
    obtain ⟨k, out, hk, rfl, hok, hown, ho, hB⟩ := hrel
    have HO := Lib.hid hown
    obtain ⟨A', cap', rfl⟩ := hown.len
    clear hown
    have hBk := hB.size
    simp only [World.size_alloc] at hBk
    have hB1 : Below w.heap.size w wr := (hb.trans (((Below.refl _ _).alloc hsz1 _).trans (hB.mono (by omega))))
    have HB := Lib.hid hB
    have HB1 := Lib.hid hB1
    by_cases hlt : k < l.length
    · obtain ⟨b, o, x, rfl, hb, hg, c0, c1, c2, c3, c4, c5, c6⟩ := recs_at (hs.below hB1) hlt
      have HG := Lib.hid hg
      have HD := Lib.hid (drop_at hg)
      have kr : wr.cell? ⟨w1.heap.size, 1, none⟩ = some (.int .i64 br.rev) := by
        rw [bcell hB w1.heap.size 1 (by omega), World.cell?_alloc_at _ _ _ _ rfl]; rfl
      clear hg hs hs1 hB hB1 hb
      have hz : w1.heap.size < wr.heap.size := by omega
      rcases Int.lt_or_le keep 1 with hk1 | hk1
      · have HM := Lib.hid (show max keep 1 = 1 by omega)
        by_cases hst : (l.length : Int) - out.length ≤ 1
        · have H0 := Lib.hid (show old l keep = out by rw [ho.out, HM.out, oldFrom_stop hst])
          go_wp2
          go_ret
          exact ⟨_, rfl, by rw [H0.out]; exact (HO.out.alloc _).base (by omega), HB1.out.alloc (by omega) _⟩
        · by_cases h1 : x.st = 1
          · have h1' : (x.st != 1) = false := by simp [h1]
            have H0 := Lib.hid (show old l keep = oldFrom bb (max keep 1) (l.drop (k + 1)) ((l.length : Int) - out.length) out by rw [ho.out, HM.out, oldFrom_skip hst HD.out (.inl h1)])
            clear h1 ho
            go_wp2
            go_roundw
            case rel => exact ⟨k + 1, out, by omega, by go_num, by omega, HO.out.alloc _, H0, HB.out.alloc (by omega) _⟩
            case measure => simp [intOf]; omega
          · have h1' : (x.st != 1) = true := by simp [h1]
            rcases bo with _ | _
            · have H0 := Lib.hid (show old l keep = oldFrom bb (max keep 1) (l.drop (k + 1)) ((l.length : Int) - (out ++ [x]).length) (out ++ [x]) by rw [ho.out, HM.out, oldFrom_take hst HD.out h1 (.inl HR3.out)]; congr 1; simp; omega)
              clear h1 ho
              go_wp2_with (at_builtin; go_must (refine wpList_append1 43 45 25 29 (.agg #[.string ⟨#[]⟩, .int .i64 0, .int .i64 0, .int .i64 0, .string ⟨#[]⟩, .string ⟨#[]⟩, .string ⟨#[]⟩]) 7 88 (w1.heap.size + 1) _ out x (wr.heap.size + 1) #[.string (x).rel, .int .i64 (x).rev, .int .i64 (x).st, .int .i64 (x).cmd, .string (x).ch, .string (x).va, .string (x).ma] Try.underlying25 info_rec29 rfl (by decide) rfl (HO.out.alloc _ |>.alloc _) rfl (Blk.new _ _ _ (by simp)) rfl rfl (Rec.one x) (by unfold maxLen; omega) (by omega) (by simp; omega) ?_); intro v' w' hown' hgr')
              go_wp2
              go_roundw
              case rel => exact ⟨k + 1, out ++ [x], by omega, by go_num, by simp; omega, hown', H0, below_own ((HB.out.alloc (by omega) _).alloc (by simp; omega) _) (HO.out.alloc _ |>.alloc _) hgr' (by simp; omega)⟩
              case measure => simp [intOf]; omega
            · by_cases h2 : x.rev = br.rev
              · have h2' : (x.rev == br.rev) = true := by simp [h2]
                have H0 := Lib.hid (show old l keep = oldFrom bb (max keep 1) (l.drop (k + 1)) ((l.length : Int) - out.length) out by rw [ho.out, HM.out, oldFrom_skip hst HD.out (.inr ⟨HR3.out, by rw [HR2.out]; exact h2⟩)])
                clear h1 h2 ho
                go_wp2
                go_roundw
                case rel => exact ⟨k + 1, out, by omega, by go_num, by omega, HO.out.alloc _, H0, HB.out.alloc (by omega) _⟩
                case measure => simp [intOf]; omega
              · have h2' : (x.rev == br.rev) = false := by simp [h2]
                have H0 := Lib.hid (show old l keep = oldFrom bb (max keep 1) (l.drop (k + 1)) ((l.length : Int) - (out ++ [x]).length) (out ++ [x]) by rw [ho.out, HM.out, oldFrom_take hst HD.out h1 (.inr (by rw [HR2.out]; exact h2))]; congr 1; simp; omega)
                clear h1 h2 ho
                go_wp2_with (at_builtin; go_must (refine wpList_append1 43 45 25 29 (.agg #[.string ⟨#[]⟩, .int .i64 0, .int .i64 0, .int .i64 0, .string ⟨#[]⟩, .string ⟨#[]⟩, .string ⟨#[]⟩]) 7 88 (w1.heap.size + 1) _ out x (wr.heap.size + 1) #[.string (x).rel, .int .i64 (x).rev, .int .i64 (x).st, .int .i64 (x).cmd, .string (x).ch, .string (x).va, .string (x).ma] Try.underlying25 info_rec29 rfl (by decide) rfl (HO.out.alloc _ |>.alloc _) rfl (Blk.new _ _ _ (by simp)) rfl rfl (Rec.one x) (by unfold maxLen; omega) (by omega) (by simp; omega) ?_); intro v' w' hown' hgr')
                go_wp2
                go_roundw
                case rel => exact ⟨k + 1, out ++ [x], by omega, by go_num, by simp; omega, hown', H0, below_own ((HB.out.alloc (by omega) _).alloc (by simp; omega) _) (HO.out.alloc _ |>.alloc _) hgr' (by simp; omega)⟩
                case measure => simp [intOf]; omega
      · have HM := Lib.hid (show max keep 1 = keep by omega)
        have hk2 : ¬ keep < 1 := by omega
        by_cases hst : (l.length : Int) - out.length ≤ keep
        · have H0 := Lib.hid (show old l keep = out by rw [ho.out, HM.out, oldFrom_stop hst])
          go_wp2
          go_ret
          exact ⟨_, rfl, by rw [H0.out]; exact (HO.out.alloc _).base (by omega), HB1.out.alloc (by omega) _⟩
        · by_cases h1 : x.st = 1
          · have h1' : (x.st != 1) = false := by simp [h1]
            have H0 := Lib.hid (show old l keep = oldFrom bb (max keep 1) (l.drop (k + 1)) ((l.length : Int) - out.length) out by rw [ho.out, HM.out, oldFrom_skip hst HD.out (.inl h1)])
            clear h1 ho
            go_wp2
            go_roundw
            case rel => exact ⟨k + 1, out, by omega, by go_num, by omega, HO.out.alloc _, H0, HB.out.alloc (by omega) _⟩
            case measure => simp [intOf]; omega
          · have h1' : (x.st != 1) = true := by simp [h1]
            rcases bo with _ | _
            · have H0 := Lib.hid (show old l keep = oldFrom bb (max keep 1) (l.drop (k + 1)) ((l.length : Int) - (out ++ [x]).length) (out ++ [x]) by rw [ho.out, HM.out, oldFrom_take hst HD.out h1 (.inl HR3.out)]; congr 1; simp; omega)
              clear h1 ho
              go_wp2_with (at_builtin; go_must (refine wpList_append1 43 45 25 29 (.agg #[.string ⟨#[]⟩, .int .i64 0, .int .i64 0, .int .i64 0, .string ⟨#[]⟩, .string ⟨#[]⟩, .string ⟨#[]⟩]) 7 88 (w1.heap.size + 1) _ out x (wr.heap.size + 1) #[.string (x).rel, .int .i64 (x).rev, .int .i64 (x).st, .int .i64 (x).cmd, .string (x).ch, .string (x).va, .string (x).ma] Try.underlying25 info_rec29 rfl (by decide) rfl (HO.out.alloc _ |>.alloc _) rfl (Blk.new _ _ _ (by simp)) rfl rfl (Rec.one x) (by unfold maxLen; omega) (by omega) (by simp; omega) ?_); intro v' w' hown' hgr')
              go_wp2
              go_roundw
              case rel => exact ⟨k + 1, out ++ [x], by omega, by go_num, by simp; omega, hown', H0, below_own ((HB.out.alloc (by omega) _).alloc (by simp; omega) _) (HO.out.alloc _ |>.alloc _) hgr' (by simp; omega)⟩
              case measure => simp [intOf]; omega
            · by_cases h2 : x.rev = br.rev
              · have h2' : (x.rev == br.rev) = true := by simp [h2]
                have H0 := Lib.hid (show old l keep = oldFrom bb (max keep 1) (l.drop (k + 1)) ((l.length : Int) - out.length) out by rw [ho.out, HM.out, oldFrom_skip hst HD.out (.inr ⟨HR3.out, by rw [HR2.out]; exact h2⟩)])
                clear h1 h2 ho
                go_wp2
                go_roundw
                case rel => exact ⟨k + 1, out, by omega, by go_num, by omega, HO.out.alloc _, H0, HB.out.alloc (by omega) _⟩
                case measure => simp [intOf]; omega
              · have h2' : (x.rev == br.rev) = false := by simp [h2]
                have H0 := Lib.hid (show old l keep = oldFrom bb (max keep 1) (l.drop (k + 1)) ((l.length : Int) - (out ++ [x]).length) (out ++ [x]) by rw [ho.out, HM.out, oldFrom_take hst HD.out h1 (.inr (by rw [HR2.out]; exact h2))]; congr 1; simp; omega)
                clear h1 h2 ho
                go_wp2_with (at_builtin; go_must (refine wpList_append1 43 45 25 29 (.agg #[.string ⟨#[]⟩, .int .i64 0, .int .i64 0, .int .i64 0, .string ⟨#[]⟩, .string ⟨#[]⟩, .string ⟨#[]⟩]) 7 88 (w1.heap.size + 1) _ out x (wr.heap.size + 1) #[.string (x).rel, .int .i64 (x).rev, .int .i64 (x).st, .int .i64 (x).cmd, .string (x).ch, .string (x).va, .string (x).ma] Try.underlying25 info_rec29 rfl (by decide) rfl (HO.out.alloc _ |>.alloc _) rfl (Blk.new _ _ _ (by simp)) rfl rfl (Rec.one x) (by unfold maxLen; omega) (by omega) (by simp; omega) ?_); intro v' w' hown' hgr')
                go_wp2
                go_roundw
                case rel => exact ⟨k + 1, out ++ [x], by omega, by go_num, by simp; omega, hown', H0, below_own ((HB.out.alloc (by omega) _).alloc (by simp; omega) _) (HO.out.alloc _ |>.alloc _) hgr' (by simp; omega)⟩
                case measure => simp [intOf]; omega
    · go_wp2
      go_ret
      have : k = l.length := by omega
      subst this
      refine ⟨_, rfl, ?_, HB1.out⟩
      rw [ho.out, List.drop_length, oldFrom]
      exact HO.out.base (by omega)
end Go.Proofs.Ytehmenkofhdmfaa
