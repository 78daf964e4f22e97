/-
  HistoryNext: the law's walk.
-/
import Derived.Test.YtehmenkofhdmfaaHistG
namespace Go.Proofs.Ytehmenkofhdmfaa
set_option linter.unusedSimpArgs false
set_option linter.unusedVariables false
open Go.RowKit

theorem rising_ok {l : List Rec} (h : rising l = true) : RevOk l ∧ l.length ≤ 60 := by
  simp only [rising, Bool.and_eq_true, decide_eq_true_eq] at h
  refine ⟨?_, h.2⟩
  have : ∀ (l : List Rec) (p : Int), risingFrom p l = true → RevOk l := by
    intro l
    induction l with
    | nil => intro p _ r hr; simp at hr
    | cons a l ih =>
      intro p hp
      simp only [risingFrom, Bool.and_eq_true, decide_eq_true_eq] at hp
      intro r hr
      rcases List.mem_cons.1 hr with rfl | hr
      · omega
      · exact ih _ hp.2 r hr
  exact this l 0 h.1
theorem le_maxRev {l : List Rec} {r : Rec} (h : r ∈ l) : r.rev ≤ maxRev l := by
  have mono : ∀ (l : List Rec) (n : Int), n ≤ l.foldl (fun n r => if n < r.rev then r.rev else n) n := by
    intro l
    induction l with
    | nil => intro n; exact Int.le_refl _
    | cons a l ih => intro n; simp only [List.foldl_cons]; have := ih (if n < a.rev then a.rev else n); split at this <;> split <;> omega
  have : ∀ (l : List Rec) (n : Int), r ∈ l → r.rev ≤ l.foldl (fun n r => if n < r.rev then r.rev else n) n := by
    intro l
    induction l with
    | nil => intro n h; simp at h
    | cons a l ih =>
      intro n h
      simp only [List.foldl_cons]
      rcases List.mem_cons.1 h with rfl | h
      · have := mono l (if n < r.rev then r.rev else n); split at this <;> split <;> omega
      · exact ih _ h
  exact this l 0 h
theorem base_snoc (l : List Rec) (r : Rec) : base (l ++ [r]) = if r.st = 5 then none else if r.st = 2 ∨ r.st = 3 then some r else base l := by
  have hk : (l ++ [r])[l.length]? = some r := by simp
  have ht : (l ++ [r]).take (l.length + 1) = l ++ [r] := List.take_of_length_le (by simp)
  have ht0 : (l ++ [r]).take l.length = l := by simp
  by_cases h5 : r.st = 5
  · rw [if_pos h5, ← ht]; exact base_none hk h5
  · rw [if_neg h5]
    by_cases h2 : r.st = 2 ∨ r.st = 3
    · rw [if_pos h2, ← ht]; exact base_some hk h2
    · rw [if_neg h2, ← ht, base_miss hk (fun h => h2 (.inl h)) (fun h => h2 (.inr h)) h5, ht0]

theorem Own.empty {α : Type} {R : List Value → α → Prop} (w : World) (e : TypeId) (size base k : Nat) (hk : w.heap.size = k) (hb : base ≤ k) : Own e size R (w.alloc (.cells #[] e)) base (.slice (some ⟨k, 0, none⟩) 0 0) [] := by
  subst hk
  exact ⟨[], World.ownsRow_made w #[] 0 hb (Nat.zero_le _) (by simp), fun i x hi => by simp at hi⟩
theorem RecR.one {cs : List Value} {x : Rec} (h : RecR cs x) : ∀ u ∈ cs, u.oneCell' = true := by
  rw [h]; simp [Rec.cells, Value.oneCell']

set_option maxHeartbeats 4000000 in
theorem historyNext_any (v : Value) (l : List Rec) (s : Int) (w : World) (hs : Sl 7 RecR w w.heap.size v l) (hl : l.length ≤ 2000000000000) (h0 : 0 ≤ s) (h255 : s ≤ 255) :
    Calls Try.prog 3 #[v, .int .u8 s] w fun e w' => e = .returned (.bool true) ∧ Below w.heap.size w w' := by
  have HS := Lib.hid hs
  obtain ⟨A, cap, rfl, hc, hs⟩ := hs
  clear hs
  go_enter Try.func3, Try.ntmps3
  go_wp2_with fail
  refine (rising_any _ l _ HS.out hl).mono ?_
  rintro e w1 ⟨rfl, hb1⟩
  have HB1 := Lib.hid hb1
  clear hb1
  rcases hr : rising l with _ | _
  · go_wp2_with fail
    refine (awake_any _).mono ?_
    rintro e w2 ⟨rfl, hb2⟩
    go_wp2
    go_ret
    exact ⟨rfl, HB1.out.trans (hb2.mono HB1.out.size)⟩
  · obtain ⟨hok, h60⟩ := rising_ok hr
    have HOK := Lib.hid hok
    clear hok hr
    go_wp2_with fail
    refine (to_any _ l _ ((HS.out.below HB1.out).more HB1.out.size) (by omega)).mono ?_
    rintro e w2 ⟨v2, rfl, hown, hb2⟩
    have HB2 := Lib.hid (HB1.out.trans (hb2.mono HB1.out.size))
    have hsz1 := HB1.out.size
    have HO := Lib.hid (hown.base hsz1)
    obtain ⟨A2, cap2, rfl⟩ := hown.len
    clear hown hb2
    go_wp2_with fail
    refine (next_any _ l _ HO.out.sl (by omega) HOK.out).mono ?_
    rintro e w3 ⟨rfl, hb3⟩
    have HB3 := Lib.hid (HB2.out.trans (hb3.mono HB2.out.size))
    have HO3 := Lib.hid (HO.out.below hb3 (Nat.le_refl _))
    have hmx := maxRev_bd l HOK.out
    generalize hn : maxRev l + 1 = n at *
    have HN := Lib.hid hn
    have hn0 : 1 ≤ n ∧ n ≤ 1000001 := by omega
    clear hn hmx hb3 HO
    go_wp2
    go_loopw [25] (fun i wr => ∃ k : Nat, k ≤ l.length ∧ i = .int .i64 k ∧ Own 29 7 RecR wr w.heap.size (.slice A2 l.length cap2) l ∧ Below w.heap.size w wr) (fun i _ => l.length - (intOf i).toNat)
    case atStart => exact ⟨0, by omega, rfl, HO3.out, HB3.out⟩
    case round =>
      obtain ⟨k, hk, rfl, hown, hB⟩ := hrel
      have HO4 := Lib.hid hown
      have HB4 := Lib.hid hB
      have hat : SlAt 7 RecR wr wr.heap.size A2 l := by
        obtain ⟨A, c, he, _, h⟩ := hown.sl
        injection he with he
        subst he
        exact h
      clear hown hB
      by_cases hlt : k < l.length
      · obtain ⟨b, o, x, rfl, hb, hg, c0, c1, c2, c3, c4, c5, c6⟩ := recs_at hat hlt
        have hx : ¬ n ≤ x.rev := by
          have h1 := le_maxRev (List.mem_of_getElem? hg)
          have h2 := HN.out
          omega
        clear hat hg
        go_wp2
        go_roundw
        case rel => exact ⟨k + 1, by omega, by go_num, HO4.out.alloc _, HB4.out.alloc HB4.out.size _⟩
        case measure => simp [intOf]; omega
      · clear hat
        go_wp2_with fail
        refine (base_any _ l _ HO4.out.sl (by omega)).mono ?_
        rintro e w4 ⟨rfl, hb4⟩
        have HB5 := Lib.hid (HB4.out.trans (hb4.mono HB4.out.size))
        have HO5 := Lib.hid (HO4.out.below hb4 (Nat.le_refl _))
        clear hb4
        have hw : w.heap.size ≤ w4.heap.size := HB5.out.size
        go_wp2_with (at_builtin; refine wpList_appendSl 43 44 25 29 (.agg #[.string ⟨#[]⟩, .int .i64 0, .int .i64 0, .int .i64 0, .string ⟨#[]⟩, .string ⟨#[]⟩, .string ⟨#[]⟩]) 7 88 (w4.heap.size + 1) _ _ [] l w4.heap.size Try.underlying25 info_rec29 rfl (by decide) rfl (Own.empty _ _ _ _ _ (by simp) (by first | omega | (simp; omega))) rfl ((HO5.out.sl.below ((Below.refl _ _).alloc (Nat.le_refl _) _)).below ((Below.refl _ _).alloc (by simp) _)) (fun _ _ => RecR.one) (by first | omega | (simp; done) | (simp; omega) | (simp [maxLen]; omega) | (unfold maxLen; omega)) (by first | omega | (simp; done) | (simp; omega) | (simp [maxLen]; omega) | (unfold maxLen; omega)) (by first | omega | (simp; done) | (simp; omega) | (simp [maxLen]; omega) | (unfold maxLen; omega)) ?_)
        intro v6 w6 hown6 hgr6 hv6
        have HB6 := Lib.hid (below_own ((Below.refl (w4.heap.size + 1) (w4.alloc (.cells #[.string ((base l).getD Rec.zero).rel, .int .i64 ((base l).getD Rec.zero).rev, .int .i64 ((base l).getD Rec.zero).st, .int .i64 ((base l).getD Rec.zero).cmd, .string ((base l).getD Rec.zero).ch, .string ((base l).getD Rec.zero).va, .string ((base l).getD Rec.zero).ma] 29))).alloc (by simp) _) (Own.empty (w4.alloc (.cells #[.string ((base l).getD Rec.zero).rel, .int .i64 ((base l).getD Rec.zero).rev, .int .i64 ((base l).getD Rec.zero).st, .int .i64 ((base l).getD Rec.zero).cmd, .string ((base l).getD Rec.zero).ch, .string ((base l).getD Rec.zero).va, .string ((base l).getD Rec.zero).ma] 29)) 29 7 (w4.heap.size + 1) (w4.heap.size + 1) (by simp) (by omega) (R := RecR)) hgr6 (by first | omega | (simp; done) | (simp; omega) | (simp [maxLen]; omega) | (unfold maxLen; omega)))
        have HO6 := Lib.hid hown6
        have hw6 := HB6.out.size
        simp only [World.size_alloc] at hw6
        clear hown6 hgr6 hv6
        simp only [List.nil_append] at HO6
        generalize hb0 : base l = bb at *
        have HBB := Lib.hid hb0
        clear hb0
        go_wp2_with (at_builtin; go_must (refine wpList_append1 45 49 25 29 (.agg #[.string ⟨#[]⟩, .int .i64 0, .int .i64 0, .int .i64 0, .string ⟨#[]⟩, .string ⟨#[]⟩, .string ⟨#[]⟩]) 7 88 (w4.heap.size + 1) _ l ⟨⟨#[]⟩, n, 1 + s % 5, 0, ⟨#[]⟩, ⟨#[]⟩, ⟨#[]⟩⟩ w6.heap.size _ Try.underlying25 info_rec29 rfl (by decide) rfl (HO6.out.alloc _) rfl (Blk.new _ _ _ rfl) rfl rfl (by simp [Value.oneCell']) (by first | omega | (simp; done) | (simp; omega) | (simp [maxLen]; omega) | (unfold maxLen; omega)) (by first | omega | (simp; done) | (simp; omega) | (simp [maxLen]; omega) | (unfold maxLen; omega)) (by first | omega | (simp; done) | (simp; omega) | (simp [maxLen]; omega) | (unfold maxLen; omega)) ?_))
        intro v7 w7 hown7 hgr7
        have HB7 := Lib.hid (below_own (HB6.out.alloc hw6 _) (HO6.out.alloc _) hgr7 (by first | omega | (simp; done) | (simp; omega) | (simp [maxLen]; omega) | (unfold maxLen; omega)))
        have HO7 := Lib.hid hown7
        have hw7 := HB7.out.size
        simp only [World.size_alloc] at hw7
        clear hown7 hgr7
        go_wp2_with fail
        refine (base_any _ _ _ HO7.out.sl (by simp; omega)).mono ?_
        rintro e w8 ⟨rfl, hb8⟩
        have HB8 := Lib.hid (HB7.out.trans (hb8.mono hw7))
        have hw8 := HB8.out.size
        simp only [World.size_alloc] at hw8
        have hK := (Blk.new w4 29 #[.string (bb.getD Rec.zero).rel, .int .i64 (bb.getD Rec.zero).rev, .int .i64 (bb.getD Rec.zero).st, .int .i64 (bb.getD Rec.zero).cmd, .string (bb.getD Rec.zero).ch, .string (bb.getD Rec.zero).va, .string (bb.getD Rec.zero).ma] rfl).below HB8.out (by omega)
        have HK := Lib.hid hK
        have HF := Lib.hid (HB5.out.trans ((((Below.refl _ w4).alloc (Nat.le_refl _) _).trans (HB8.out.mono (by omega))).mono hw))
        clear hK hb8
        rw [base_snoc, HBB.out]
        simp only []
        have h5 : s % 5 = 0 ∨ s % 5 = 1 ∨ s % 5 = 2 ∨ s % 5 = 3 ∨ s % 5 = 4 := by omega
        rcases h5 with h5 | h5 | h5 | h5 | h5
        all_goals
          rw [h5]
          simp only [Int.add_zero, Int.reduceAdd, Int.reduceEq, if_false, if_true, or_false, or_true, false_or, reduceIte]
        all_goals
          clear h5
          go_wp2_with fail
          refine (awake_any _).mono ?_
          rintro e w9 ⟨rfl, hb9⟩
          have HE := Lib.hid ((HF.out.alloc HF.out.size _).trans (hb9.mono (by have := HF.out.size; simp; omega)))
          have k9 := bcell hb9
          have hz9 := hb9.size
          simp only [World.size_alloc] at k9 hz9
          have hz4 : w4.heap.size < w8.heap.size := by omega
          have hz8 : w8.heap.size < w9.heap.size := by omega
          have hz5 : w4.heap.size < w8.heap.size + 1 := by omega
          have kK := HK.out.cell
          have hself : ∀ r, recEq r r = true := recEq_self
          have e29 := run_eqrec29
          have g29 := guard29
          clear hb9 hw6 hw7 hw8
          go_wp2
        all_goals (go_ret; exact ⟨rfl, HE.out⟩)
end Go.Proofs.Ytehmenkofhdmfaa
