/-
  The walks of the functions on revisions, fifth part: the document's Old.
-/
import Derived.Test.YtehmenkofhdmfaaHistD
namespace Go.Proofs.Ytehmenkofhdmfaa
set_option linter.unusedSimpArgs false
set_option linter.unusedVariables false
open Go.RowKit

set_option maxHeartbeats 4000000 in
theorem refOld_any (v : Value) (l : List Rec) (keep : Int) (w : World) (hs : Sl 7 RecR w w.heap.size v l) (hl : l.length ≤ 1000000) :
    Calls Try.prog 17 #[v, .int .i64 keep] w fun e w' =>
      ∃ v', e = .returned v' ∧ Own 37 7 RecR w' w.heap.size v' (old l keep) ∧ Below w.heap.size w w' := by
  have HS := Lib.hid hs
  obtain ⟨A, cap, rfl, hc, hs⟩ := hs
  rcases Int.lt_or_le keep 1 with hk1 | hk1
  · have HM := Lib.hid (show max keep 1 = 1 by omega)
    go_enter Try.func17, Try.ntmps17
    go_wp2_with fail
    refine (refBase_any _ l _ HS.out hl).mono ?_
    rintro e w1 ⟨rfl, hb⟩
    generalize hr : base l = bb
    have HR := Lib.hid hr
    clear hr
    generalize hr : bb.getD Rec.zero = br
    have HR2 := Lib.hid hr
    clear hr
    generalize hr : bb.isSome = bo
    have HR3 := Lib.hid hr
    clear hr HS
    have hs1 := (hs.below hb)
    have hsz1 := hb.size
    go_wp2_with fail
    go_loopw [5, 8, 9] (fun v c i wr => ∃ (k : Nat) (out : List Rec), k ≤ l.length ∧ i = .int .i64 k ∧ c = .int .i64 ((l.length : Int) - out.length) ∧ out.length ≤ k ∧ Own 37 7 RecR wr (w1.heap.size + 1) v out ∧ Hid (old l keep = oldFrom bb (max keep 1) (l.drop k) ((l.length : Int) - out.length) out) ∧ Below (w1.heap.size + 1) (w1.alloc (Obj.cells #[.string (br).rel, .int .i64 (br).rev, .int .i64 (br).st, .int .i64 (br).cmd, .string (br).ch, .string (br).va, .string (br).ma] 37)) wr) (fun _ _ i _ => l.length - (intOf i).toNat)
    case atStart => exact ⟨0, [], by omega, rfl, by simp, by simp, Own.nil _ _ _ _ _, Lib.hid (by rw [old, HR.out]; simp), Below.refl _ _⟩
    case round =>
      obtain ⟨k, out, hk, rfl, rfl, hok, hown, ho, hB⟩ := hrel
      have HO := Lib.hid hown
      obtain ⟨A', cap', rfl⟩ := hown.len
      clear hown
      have hBk := hB.size
      simp only [World.size_alloc] at hBk
      have hB1 : Below w.heap.size w wr := (hb.trans (((Below.refl _ _).alloc hsz1 _).trans (hB.mono (by omega))))
      have HB := Lib.hid hB
      have HB1 := Lib.hid hB1
      by_cases hlt : k < l.length
      · obtain ⟨b, o, x, rfl, hb, hg, c0, c1, c2, c3, c4, c5, c6⟩ := recs_at (hs.below hB1) hlt
        have HG := Lib.hid hg
        have HD := Lib.hid (drop_at hg)
        have kr : wr.cell? ⟨w1.heap.size, 1, none⟩ = some (.int .i64 br.rev) := by
          rw [bcell hB w1.heap.size 1 (by omega), World.cell?_alloc_at _ _ _ _ rfl]; rfl
        clear hg hs hs1 hB hB1 hb
        have hz : w1.heap.size < wr.heap.size := by omega
        by_cases hst : (l.length : Int) - out.length ≤ 1
        · have H0 := Lib.hid (show old l keep = out by rw [ho.out, HM.out, oldFrom_stop hst])
          have hst' : ¬ 1 < (l.length : Int) - out.length := by omega
          clear hst
          go_wp2
          go_ret
          exact ⟨_, rfl, by rw [H0.out]; exact HO.out.base (by omega), HB1.out⟩
        · have hst' : 1 < (l.length : Int) - out.length := by omega
          by_cases h1 : x.st = 1
          · have h1' : (x.st == 1) = true := by simp [h1]
            have H0 := Lib.hid (show old l keep = oldFrom bb (max keep 1) (l.drop (k + 1)) ((l.length : Int) - out.length) out by rw [ho.out, HM.out, oldFrom_skip hst HD.out (.inl h1)])
            clear h1 ho hst
            go_wp2
            go_quiet (fail)
            go_wp2
            go_roundw
            case rel => exact ⟨k + 1, out, by omega, by go_num, by go_num, by omega, HO.out.drewN _, H0, below_drewN HB.out _⟩
            case measure => simp [intOf]; omega
          · have h1' : (x.st == 1) = false := by simp [h1]
            rcases bo with _ | _
            · have H0 := Lib.hid (show old l keep = oldFrom bb (max keep 1) (l.drop (k + 1)) ((l.length : Int) - (out ++ [x]).length) (out ++ [x]) by rw [ho.out, HM.out, oldFrom_take hst HD.out h1 (.inl HR3.out)]; congr 1; simp; omega)
              clear h1 ho hst
              go_wp2
              go_quiet (fail)
              go_wp2_with (at_builtin; go_must (refine wpList_append1 49 54 22 37 (.agg #[.string ⟨#[]⟩, .int .i64 0, .int .i64 0, .int .i64 0, .string ⟨#[]⟩, .string ⟨#[]⟩, .string ⟨#[]⟩]) 7 88 (w1.heap.size + 1) _ out x wr.heap.size #[.string (x).rel, .int .i64 (x).rev, .int .i64 (x).st, .int .i64 (x).cmd, .string (x).ch, .string (x).va, .string (x).ma] Try.underlying22 info_rec37 rfl (by decide) rfl (HO.out.drewN _ |>.alloc _) rfl (Blk.new _ _ _ (by simp)) rfl rfl (Rec.one x) (by unfold maxLen; omega) (by omega) (by simp; omega) ?_); intro v' w' hown' hgr')
              go_wp2
              go_roundw
              case rel => exact ⟨k + 1, out ++ [x], by omega, by go_num, by simp; omega, by simp; omega, hown', H0, below_own ((below_drewN HB.out _).alloc (by simp; omega) _) (HO.out.drewN _ |>.alloc _) hgr' (by simp; omega)⟩
              case measure => simp [intOf]; omega
            · by_cases h2 : x.rev = br.rev
              · have h2' : (x.rev == br.rev) = true := by simp [h2]
                have H0 := Lib.hid (show old l keep = oldFrom bb (max keep 1) (l.drop (k + 1)) ((l.length : Int) - out.length) out by rw [ho.out, HM.out, oldFrom_skip hst HD.out (.inr ⟨HR3.out, by rw [HR2.out]; exact h2⟩)])
                clear h1 h2 ho hst
                go_wp2
                go_quiet (fail)
                go_wp2
                go_roundw
                case rel => exact ⟨k + 1, out, by omega, by go_num, by go_num, by omega, HO.out.drewN _, H0, below_drewN HB.out _⟩
                case measure => simp [intOf]; omega
              · have h2' : (x.rev == br.rev) = false := by simp [h2]
                have H0 := Lib.hid (show old l keep = oldFrom bb (max keep 1) (l.drop (k + 1)) ((l.length : Int) - (out ++ [x]).length) (out ++ [x]) by rw [ho.out, HM.out, oldFrom_take hst HD.out h1 (.inr (by rw [HR2.out]; exact h2))]; congr 1; simp; omega)
                clear h1 h2 ho hst
                go_wp2
                go_quiet (fail)
                go_wp2_with (at_builtin; go_must (refine wpList_append1 49 54 22 37 (.agg #[.string ⟨#[]⟩, .int .i64 0, .int .i64 0, .int .i64 0, .string ⟨#[]⟩, .string ⟨#[]⟩, .string ⟨#[]⟩]) 7 88 (w1.heap.size + 1) _ out x wr.heap.size #[.string (x).rel, .int .i64 (x).rev, .int .i64 (x).st, .int .i64 (x).cmd, .string (x).ch, .string (x).va, .string (x).ma] Try.underlying22 info_rec37 rfl (by decide) rfl (HO.out.drewN _ |>.alloc _) rfl (Blk.new _ _ _ (by simp)) rfl rfl (Rec.one x) (by unfold maxLen; omega) (by omega) (by simp; omega) ?_); intro v' w' hown' hgr')
                go_wp2
                go_roundw
                case rel => exact ⟨k + 1, out ++ [x], by omega, by go_num, by simp; omega, by simp; omega, hown', H0, below_own ((below_drewN HB.out _).alloc (by simp; omega) _) (HO.out.drewN _ |>.alloc _) hgr' (by simp; omega)⟩
                case measure => simp [intOf]; omega
      · go_wp2
        go_ret
        have : k = l.length := by omega
        subst this
        refine ⟨_, rfl, ?_, HB1.out⟩
        rw [ho.out, List.drop_length, oldFrom]
        exact HO.out.base (by omega)
  · have HM := Lib.hid (show max keep 1 = keep by omega)
    have hk2 : ¬ keep < 1 := by omega
    go_enter Try.func17, Try.ntmps17
    go_wp2_with fail
    refine (refBase_any _ l _ HS.out hl).mono ?_
    rintro e w1 ⟨rfl, hb⟩
    generalize hr : base l = bb
    have HR := Lib.hid hr
    clear hr
    generalize hr : bb.getD Rec.zero = br
    have HR2 := Lib.hid hr
    clear hr
    generalize hr : bb.isSome = bo
    have HR3 := Lib.hid hr
    clear hr HS
    have hs1 := (hs.below hb)
    have hsz1 := hb.size
    go_wp2_with fail
    go_loopw [5, 8, 9] (fun v c i wr => ∃ (k : Nat) (out : List Rec), k ≤ l.length ∧ i = .int .i64 k ∧ c = .int .i64 ((l.length : Int) - out.length) ∧ out.length ≤ k ∧ Own 37 7 RecR wr (w1.heap.size + 1) v out ∧ Hid (old l keep = oldFrom bb (max keep 1) (l.drop k) ((l.length : Int) - out.length) out) ∧ Below (w1.heap.size + 1) (w1.alloc (Obj.cells #[.string (br).rel, .int .i64 (br).rev, .int .i64 (br).st, .int .i64 (br).cmd, .string (br).ch, .string (br).va, .string (br).ma] 37)) wr) (fun _ _ i _ => l.length - (intOf i).toNat)
    case atStart => exact ⟨0, [], by omega, rfl, by simp, by simp, Own.nil _ _ _ _ _, Lib.hid (by rw [old, HR.out]; simp), Below.refl _ _⟩
    case round =>
      obtain ⟨k, out, hk, rfl, rfl, hok, hown, ho, hB⟩ := hrel
      have HO := Lib.hid hown
      obtain ⟨A', cap', rfl⟩ := hown.len
      clear hown
      have hBk := hB.size
      simp only [World.size_alloc] at hBk
      have hB1 : Below w.heap.size w wr := (hb.trans (((Below.refl _ _).alloc hsz1 _).trans (hB.mono (by omega))))
      have HB := Lib.hid hB
      have HB1 := Lib.hid hB1
      by_cases hlt : k < l.length
      · obtain ⟨b, o, x, rfl, hb, hg, c0, c1, c2, c3, c4, c5, c6⟩ := recs_at (hs.below hB1) hlt
        have HG := Lib.hid hg
        have HD := Lib.hid (drop_at hg)
        have kr : wr.cell? ⟨w1.heap.size, 1, none⟩ = some (.int .i64 br.rev) := by
          rw [bcell hB w1.heap.size 1 (by omega), World.cell?_alloc_at _ _ _ _ rfl]; rfl
        clear hg hs hs1 hB hB1 hb
        have hz : w1.heap.size < wr.heap.size := by omega
        by_cases hst : (l.length : Int) - out.length ≤ keep
        · have H0 := Lib.hid (show old l keep = out by rw [ho.out, HM.out, oldFrom_stop hst])
          have hst' : ¬ keep < (l.length : Int) - out.length := by omega
          clear hst
          go_wp2
          go_ret
          exact ⟨_, rfl, by rw [H0.out]; exact HO.out.base (by omega), HB1.out⟩
        · have hst' : keep < (l.length : Int) - out.length := by omega
          by_cases h1 : x.st = 1
          · have h1' : (x.st == 1) = true := by simp [h1]
            have H0 := Lib.hid (show old l keep = oldFrom bb (max keep 1) (l.drop (k + 1)) ((l.length : Int) - out.length) out by rw [ho.out, HM.out, oldFrom_skip hst HD.out (.inl h1)])
            clear h1 ho hst
            go_wp2
            go_quiet (fail)
            go_wp2
            go_roundw
            case rel => exact ⟨k + 1, out, by omega, by go_num, by go_num, by omega, HO.out.drewN _, H0, below_drewN HB.out _⟩
            case measure => simp [intOf]; omega
          · have h1' : (x.st == 1) = false := by simp [h1]
            rcases bo with _ | _
            · have H0 := Lib.hid (show old l keep = oldFrom bb (max keep 1) (l.drop (k + 1)) ((l.length : Int) - (out ++ [x]).length) (out ++ [x]) by rw [ho.out, HM.out, oldFrom_take hst HD.out h1 (.inl HR3.out)]; congr 1; simp; omega)
              clear h1 ho hst
              go_wp2
              go_quiet (fail)
              go_wp2_with (at_builtin; go_must (refine wpList_append1 49 54 22 37 (.agg #[.string ⟨#[]⟩, .int .i64 0, .int .i64 0, .int .i64 0, .string ⟨#[]⟩, .string ⟨#[]⟩, .string ⟨#[]⟩]) 7 88 (w1.heap.size + 1) _ out x wr.heap.size #[.string (x).rel, .int .i64 (x).rev, .int .i64 (x).st, .int .i64 (x).cmd, .string (x).ch, .string (x).va, .string (x).ma] Try.underlying22 info_rec37 rfl (by decide) rfl (HO.out.drewN _ |>.alloc _) rfl (Blk.new _ _ _ (by simp)) rfl rfl (Rec.one x) (by unfold maxLen; omega) (by omega) (by simp; omega) ?_); intro v' w' hown' hgr')
              go_wp2
              go_roundw
              case rel => exact ⟨k + 1, out ++ [x], by omega, by go_num, by simp; omega, by simp; omega, hown', H0, below_own ((below_drewN HB.out _).alloc (by simp; omega) _) (HO.out.drewN _ |>.alloc _) hgr' (by simp; omega)⟩
              case measure => simp [intOf]; omega
            · by_cases h2 : x.rev = br.rev
              · have h2' : (x.rev == br.rev) = true := by simp [h2]
                have H0 := Lib.hid (show old l keep = oldFrom bb (max keep 1) (l.drop (k + 1)) ((l.length : Int) - out.length) out by rw [ho.out, HM.out, oldFrom_skip hst HD.out (.inr ⟨HR3.out, by rw [HR2.out]; exact h2⟩)])
                clear h1 h2 ho hst
                go_wp2
                go_quiet (fail)
                go_wp2
                go_roundw
                case rel => exact ⟨k + 1, out, by omega, by go_num, by go_num, by omega, HO.out.drewN _, H0, below_drewN HB.out _⟩
                case measure => simp [intOf]; omega
              · have h2' : (x.rev == br.rev) = false := by simp [h2]
                have H0 := Lib.hid (show old l keep = oldFrom bb (max keep 1) (l.drop (k + 1)) ((l.length : Int) - (out ++ [x]).length) (out ++ [x]) by rw [ho.out, HM.out, oldFrom_take hst HD.out h1 (.inr (by rw [HR2.out]; exact h2))]; congr 1; simp; omega)
                clear h1 h2 ho hst
                go_wp2
                go_quiet (fail)
                go_wp2_with (at_builtin; go_must (refine wpList_append1 49 54 22 37 (.agg #[.string ⟨#[]⟩, .int .i64 0, .int .i64 0, .int .i64 0, .string ⟨#[]⟩, .string ⟨#[]⟩, .string ⟨#[]⟩]) 7 88 (w1.heap.size + 1) _ out x wr.heap.size #[.string (x).rel, .int .i64 (x).rev, .int .i64 (x).st, .int .i64 (x).cmd, .string (x).ch, .string (x).va, .string (x).ma] Try.underlying22 info_rec37 rfl (by decide) rfl (HO.out.drewN _ |>.alloc _) rfl (Blk.new _ _ _ (by simp)) rfl rfl (Rec.one x) (by unfold maxLen; omega) (by omega) (by simp; omega) ?_); intro v' w' hown' hgr')
                go_wp2
                go_roundw
                case rel => exact ⟨k + 1, out ++ [x], by omega, by go_num, by simp; omega, by simp; omega, hown', H0, below_own ((below_drewN HB.out _).alloc (by simp; omega) _) (HO.out.drewN _ |>.alloc _) hgr' (by simp; omega)⟩
                case measure => simp [intOf]; omega
      · go_wp2
        go_ret
        have : k = l.length := by omega
        subst this
        refine ⟨_, rfl, ?_, HB1.out⟩
        rw [ho.out, List.drop_length, oldFrom]
        exact HO.out.base (by omega)
end Go.Proofs.Ytehmenkofhdmfaa
