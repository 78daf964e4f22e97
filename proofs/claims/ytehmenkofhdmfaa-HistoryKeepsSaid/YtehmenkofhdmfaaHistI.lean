/-
  HistoryFinds: the law's walk.
-/
import Derived.Test.YtehmenkofhdmfaaHistH
namespace Go.Proofs.Ytehmenkofhdmfaa
set_option linter.unusedSimpArgs false
set_option linter.unusedVariables false
open Go.RowKit

def lastRev (l : List Rec) (n : Int) : Option Rec := l.reverse.find? fun (r : Rec) => r.rev == n
theorem lastRev_hit {l : List Rec} {n : Int} {k : Nat} {r : Rec} (h : l[k]? = some r) (c : (r.rev == n) = true) : lastRev (l.take (k + 1)) n = some r := by
  rw [List.take_add_one, h]
  simp [lastRev] at c ⊢
  simp [c]
theorem lastRev_miss {l : List Rec} {n : Int} {k : Nat} {r : Rec} (h : l[k]? = some r) (c : (r.rev == n) = false) : lastRev (l.take (k + 1)) n = lastRev (l.take k) n := by
  rw [List.take_add_one, h]
  simp [lastRev] at c ⊢
  simp [c]
theorem rising_find {l : List Rec} (h : rising l = true) (n : Int) : findRev l n = lastRev l n := by
  simp only [rising, Bool.and_eq_true, decide_eq_true_eq] at h
  have gt : ∀ (l : List Rec) (p : Int), risingFrom p l = true → ∀ r ∈ l, p < r.rev := by
    intro l
    induction l with
    | nil => intro p _ r hr; simp at hr
    | cons a l ih =>
      intro p hp r hr
      simp only [risingFrom, Bool.and_eq_true, decide_eq_true_eq] at hp
      rcases List.mem_cons.1 hr with rfl | hr
      · omega
      · have := ih _ hp.2 r hr; omega
  have key : ∀ (l : List Rec) (p : Int), risingFrom p l = true → l.find? (fun (r : Rec) => r.rev == n) = l.reverse.find? fun (r : Rec) => r.rev == n := by
    intro l
    induction l with
    | nil => intro p _; rfl
    | cons a l ih =>
      intro p hp
      simp only [risingFrom, Bool.and_eq_true, decide_eq_true_eq] at hp
      rw [List.reverse_cons, List.find?_append, ← ih _ hp.2, List.find?_cons]
      cases ha : (a.rev == n) with
      | true =>
        have hn : l.find? (fun (r : Rec) => r.rev == n) = none := List.find?_eq_none.2 fun r hr => by
          have := gt _ _ hp.2 r hr
          simp at ha ⊢
          omega
        simp [hn, ha]
      | false => simp [ha]
  exact key l 0 h.1

/-- what stands in 'want' behind j states of the round -/
def wantAt (x : Rec) (states : List Int) (j : Nat) (was : Option Rec) : Option Rec := if (states.take j).contains x.st then some x else was
theorem wantAt_zero (x : Rec) (states : List Int) (was : Option Rec) : wantAt x states 0 was = was := by simp [wantAt]
theorem wantAt_hit {x : Rec} {states : List Int} {j : Nat} {s : Int} (was : Option Rec) (h : states[j]? = some s) (c : (x.st == s) = true) : wantAt x states (j + 1) was = some x := by
  rw [wantAt, List.take_add_one, h]
  simp at c
  simp [c]
theorem wantAt_miss {x : Rec} {states : List Int} {j : Nat} {s : Int} (was : Option Rec) (h : states[j]? = some s) (c : (x.st == s) = false) : wantAt x states (j + 1) was = wantAt x states j was := by
  rw [wantAt, wantAt, List.take_add_one, h]
  simp at c
  simp [c]
theorem wantAt_end {l : List Rec} {states : List Int} {k : Nat} {x : Rec} (h : l[k]? = some x) : wantAt x states states.length (withS (l.take k) states) = withS (l.take (k + 1)) states := by
  rw [wantAt, List.take_length]
  cases c : states.contains x.st with
  | true => rw [withS_hit h c]; rfl
  | false => rw [withS_miss h c]; rfl

set_option maxHeartbeats 8000000 in
theorem historyFinds_any (v vs : Value) (l : List Rec) (states : List Int) (n keep : Int) (w : World) (hs : Sl 7 RecR w w.heap.size v l) (hss : Sl 1 IntR w w.heap.size vs states) (hl : l.length ≤ 2000000000000) (hl2 : states.length ≤ 20000000000000) :
    Calls Try.prog 5 #[v, vs, .int .i64 n, .int .i64 keep] w fun e w' => e = .returned (.bool true) ∧ Below w.heap.size w w' := by
  have HS := Lib.hid hs
  have HT := Lib.hid hss
  obtain ⟨A, cap, rfl, hc, hs⟩ := hs
  obtain ⟨At, capt, rfl, hct, hst⟩ := hss
  clear hs hst
  go_enter Try.func5, Try.ntmps5
  go_wp2_with fail
  refine (rising_any _ l _ HS.out hl).mono ?_
  rintro e w1 ⟨rfl, hb1⟩
  have HB1 := Lib.hid hb1
  clear hb1
  rcases hr : rising l with _ | _
  · go_wp2_with fail
    refine (awake_any _).mono ?_
    rintro e w2 ⟨rfl, hb2⟩
    go_wp2
    go_ret
    exact ⟨rfl, HB1.out.trans (hb2.mono HB1.out.size)⟩
  · by_cases h10 : 10 < states.length
    · go_wp2_with fail
      refine (awake_any _).mono ?_
      rintro e w2 ⟨rfl, hb2⟩
      go_wp2
      go_ret
      exact ⟨rfl, HB1.out.trans (hb2.mono HB1.out.size)⟩
    · obtain ⟨hok, h60⟩ := rising_ok hr
      have HOK := Lib.hid hok
      have HFR := Lib.hid (rising_find hr n)
      clear hok hr
      go_wp2_with fail
      refine (to_any _ l _ ((HS.out.below HB1.out).more HB1.out.size) (by omega)).mono ?_
      rintro e w2 ⟨v2, rfl, hown, hb2⟩
      have HB2 := Lib.hid (HB1.out.trans (hb2.mono HB1.out.size))
      have hsz1 := HB1.out.size
      have hsz2 := HB2.out.size
      have HO := Lib.hid (hown.base hsz1)
      obtain ⟨A2, cap2, rfl⟩ := hown.len
      clear hown hb2
      go_wp2_with fail
      refine (base_any _ l _ HO.out.sl (by omega)).mono ?_
      rintro e w3 ⟨rfl, hb3⟩
      have HB3 := Lib.hid (HB2.out.trans (hb3.mono HB2.out.size))
      have HO3 := Lib.hid (HO.out.below hb3 (Nat.le_refl _))
      have hsz3 := HB3.out.size
      clear hb3
      generalize hbb : base l = bb at *
      have HBB := Lib.hid hbb
      clear hbb
      generalize hbr : bb.getD Rec.zero = br at *
      have HBR := Lib.hid hbr
      clear hbr
      go_wp2_with fail
      refine (refBase_any _ l _ (((HS.out.below HB3.out).below ((Below.refl _ _).alloc hsz3 _)).more (by simp; omega)) (by omega)).mono ?_
      rintro e w4 ⟨rfl, hb4⟩
      rw [HBB.out, HBR.out]
      have HB4 := Lib.hid ((HB3.out.alloc hsz3 _).trans (hb4.mono (by simp; omega)))
      have HO4 := Lib.hid ((HO3.out.alloc _).below hb4 (Nat.le_refl _))
      have hsz4 := HB4.out.size
      have k4 := bcell hb4
      have hz4 := hb4.size
      simp only [World.size_alloc] at k4 hz4
      have hz34 : w3.heap.size < w4.heap.size := by omega
      have hself : ∀ r, recEq r r = true := recEq_self
      have e37 := run_neqrec37
      have g37 := guard37
      clear hb4
      go_wp2_with fail
      refine (next_any _ l _ (HO4.out.alloc _).sl (by omega) HOK.out).mono ?_
      rintro e w5 ⟨rfl, hb5⟩
      have HB5 := Lib.hid ((HB4.out.alloc hsz4 _).trans (hb5.mono (by simp; omega)))
      have HO5 := Lib.hid ((HO4.out.alloc _).below hb5 (Nat.le_refl _))
      have hsz5 := HB5.out.size
      clear hb5 k4 hself e37 g37 hz4 hz34
      go_wp2_with fail
      refine (refNext_any _ l _ ((HS.out.below HB5.out).more hsz5) (by omega) HOK.out).mono ?_
      rintro e w5' ⟨rfl, rfl⟩
      go_wp2_with fail
      refine (old_any _ l keep _ HO5.out.sl (by omega)).mono ?_
      rintro e w6 ⟨v6, rfl, hown6, hb6⟩
      have HB6 := Lib.hid (HB5.out.trans (hb6.mono hsz5))
      have HO6 := Lib.hid (HO5.out.below hb6 (Nat.le_refl _))
      have HP6 := Lib.hid (hown6.base hsz5)
      have hsz6 := HB6.out.size
      clear hown6 hb6
      go_wp2_with fail
      refine (refOld_any _ l keep _ ((HS.out.below HB6.out).more hsz6) (by omega)).mono ?_
      rintro e w7 ⟨v7, rfl, hown7, hb7⟩
      have HB7 := Lib.hid (HB6.out.trans (hb7.mono hsz6))
      have HO7 := Lib.hid (HO6.out.below hb7 (Nat.le_refl _))
      have HP7 := Lib.hid (HP6.out.below hb7 (Nat.le_refl _))
      have HQ7 := Lib.hid hown7
      have hsz7 := HB7.out.size
      clear hown7 hb7
      have hol : (old l keep).length ≤ 60 := by have := oldFrom_len (base l) (max keep 1) l l.length []; simp [old] at this ⊢; omega
      go_wp2_with fail
      refine (same_any _ _ (old l keep) (old l keep) _ HP7.out.sl HQ7.out.sl (by omega) (by omega) rfl).mono ?_
      rintro e w8 ⟨rfl, hb8⟩
      have HB8 := Lib.hid (HB7.out.trans (hb8.mono hsz7))
      have HO8 := Lib.hid (HO7.out.below hb8 (Nat.le_refl _))
      have hsz8 := HB8.out.size
      have hs8 : SlAt 7 RecR w8 w.heap.size A l := by
        obtain ⟨A', c', he, _, h⟩ := HS.out.below HB8.out
        injection he with he
        subst he
        exact h
      have ht8 : SlAt 1 IntR w8 w.heap.size At states := by
        obtain ⟨A', c', he, _, h⟩ := HT.out.below HB8.out
        injection he with he
        subst he
        exact h
      clear hb8 HQ7 HP7 HP6
      go_wp2
      go_loopw [15, 17, 76] (fun has there i wr => ∃ k : Nat, k ≤ l.length ∧ i = .int .i64 k ∧ has = .bool (withS (l.take k) states).isSome ∧ there = .bool (lastRev (l.take k) n).isSome ∧
        Blk wr w8.heap.size 37 #[.string ((withS (l.take k) states).getD Rec.zero).rel, .int .i64 ((withS (l.take k) states).getD Rec.zero).rev, .int .i64 ((withS (l.take k) states).getD Rec.zero).st, .int .i64 ((withS (l.take k) states).getD Rec.zero).cmd, .string ((withS (l.take k) states).getD Rec.zero).ch, .string ((withS (l.take k) states).getD Rec.zero).va, .string ((withS (l.take k) states).getD Rec.zero).ma] ∧ Blk wr (w8.heap.size + 1) 37 #[.string ((lastRev (l.take k) n).getD Rec.zero).rel, .int .i64 ((lastRev (l.take k) n).getD Rec.zero).rev, .int .i64 ((lastRev (l.take k) n).getD Rec.zero).st, .int .i64 ((lastRev (l.take k) n).getD Rec.zero).cmd, .string ((lastRev (l.take k) n).getD Rec.zero).ch, .string ((lastRev (l.take k) n).getD Rec.zero).va, .string ((lastRev (l.take k) n).getD Rec.zero).ma] ∧ Below w8.heap.size w8 wr ∧ w8.heap.size + 2 ≤ wr.heap.size) (fun _ _ i _ => l.length - (intOf i).toNat)
      case atStart => exact ⟨0, by omega, rfl, rfl, rfl, (Blk.new w8 37 #[.string ⟨#[]⟩, .int .i64 0, .int .i64 0, .int .i64 0, .string ⟨#[]⟩, .string ⟨#[]⟩, .string ⟨#[]⟩] rfl).alloc _, Blk.new _ 37 #[.string ⟨#[]⟩, .int .i64 0, .int .i64 0, .int .i64 0, .string ⟨#[]⟩, .string ⟨#[]⟩, .string ⟨#[]⟩] (by simp), ((Below.refl _ _).alloc (Nat.le_refl _) _).alloc (by simp) _, by simp⟩
      case round =>
        obtain ⟨k, hk, rfl, rfl, rfl, hk14, hk16, hB, hz⟩ := hrel
        have HK14 := Lib.hid hk14
        have HK16 := Lib.hid hk16
        have HB := Lib.hid hB
        clear hk14 hk16
        by_cases hlt : k < l.length
        · obtain ⟨b, o, x, rfl, hb, hg, c0, c1, c2, c3, c4, c5, c6⟩ := recs_at (hs8.below (hB.mono hsz8)) hlt
          have HG := Lib.hid hg
          clear hg hs8 hB
          obtain ⟨wo, rfl⟩ : ∃ wo : World, wo = wr := ⟨_, rfl⟩
          go_wp2
          go_loopw [15, 82] (fun has j w' => ∃ m : Nat, m ≤ states.length ∧ j = .int .i64 m ∧ has = .bool (wantAt x states m (withS (l.take k) states)).isSome ∧
            Blk w' w8.heap.size 37 #[.string ((wantAt x states m (withS (l.take k) states)).getD Rec.zero).rel, .int .i64 ((wantAt x states m (withS (l.take k) states)).getD Rec.zero).rev, .int .i64 ((wantAt x states m (withS (l.take k) states)).getD Rec.zero).st, .int .i64 ((wantAt x states m (withS (l.take k) states)).getD Rec.zero).cmd, .string ((wantAt x states m (withS (l.take k) states)).getD Rec.zero).ch, .string ((wantAt x states m (withS (l.take k) states)).getD Rec.zero).va, .string ((wantAt x states m (withS (l.take k) states)).getD Rec.zero).ma] ∧ Blk w' (w8.heap.size + 1) 37 #[.string ((lastRev (l.take k) n).getD Rec.zero).rel, .int .i64 ((lastRev (l.take k) n).getD Rec.zero).rev, .int .i64 ((lastRev (l.take k) n).getD Rec.zero).st, .int .i64 ((lastRev (l.take k) n).getD Rec.zero).cmd, .string ((lastRev (l.take k) n).getD Rec.zero).ch, .string ((lastRev (l.take k) n).getD Rec.zero).va, .string ((lastRev (l.take k) n).getD Rec.zero).ma] ∧ Blk w' wo.heap.size 37 #[.string (x).rel, .int .i64 (x).rev, .int .i64 (x).st, .int .i64 (x).cmd, .string (x).ch, .string (x).va, .string (x).ma] ∧ Below w8.heap.size w8 w' ∧ w8.heap.size + 3 ≤ w'.heap.size) (fun _ j _ => states.length - (intOf j).toNat)
          case atStart => exact ⟨0, by omega, rfl, by rw [wantAt_zero], by rw [wantAt_zero]; exact HK14.out.alloc _, HK16.out.alloc _, Blk.new _ _ _ rfl, HB.out.alloc (by omega) _, by simp; omega⟩
          case round =>
            obtain ⟨m, hm, rfl, rfl, h14, h16, h19, hB2, hz2⟩ := hrel
            have HC14 := Lib.hid h14
            have HC16 := Lib.hid h16
            have HC19 := Lib.hid h19
            have HD := Lib.hid hB2
            have kx := h19.cell
            clear h14 h16
            have hne1 : w8.heap.size ≠ w8.heap.size + 1 := by omega
            have hne2 : w8.heap.size ≠ wo.heap.size := by omega
            have hne3 : w8.heap.size + 1 ≠ wo.heap.size := by omega
            by_cases hlm : m < states.length
            · obtain ⟨b2, o2, s, rfl, hb2, hg2, d0⟩ := ints_at (ht8.below (hB2.mono hsz8)) hlm
              have HG2 := Lib.hid hg2
              clear hg2 ht8 hB2 h19
              rcases hcs : (x.st == s) with _ | _
              · have HE := Lib.hid (wantAt_miss (withS (l.take k) states) HG2.out hcs)
                go_wp2
                go_roundw
                case rel => exact ⟨m + 1, by omega, by go_num, by rw [HE.out], by rw [HE.out]; exact HC14.out, HC16.out, HC19.out, HD.out, hz2⟩
                case measure => simp [intOf]; omega
              · have HE := Lib.hid (wantAt_hit (withS (l.take k) states) HG2.out hcs)
                go_wp2_with ((with_reducible refine wpList_store_row 14 90 37 (w8.heap.size) 37 #[.string ((wantAt x states m (withS (l.take k) states)).getD Rec.zero).rel, .int .i64 ((wantAt x states m (withS (l.take k) states)).getD Rec.zero).rev, .int .i64 ((wantAt x states m (withS (l.take k) states)).getD Rec.zero).st, .int .i64 ((wantAt x states m (withS (l.take k) states)).getD Rec.zero).cmd, .string ((wantAt x states m (withS (l.take k) states)).getD Rec.zero).ch, .string ((wantAt x states m (withS (l.take k) states)).getD Rec.zero).va, .string ((wantAt x states m (withS (l.take k) states)).getD Rec.zero).ma] #[.string (x).rel, .int .i64 (x).rev, .int .i64 (x).st, .int .i64 (x).cmd, .string (x).ch, .string (x).va, .string (x).ma] ?_ ?_ ?_ ?_ ?_ ?_ ?_); rfl; rfl; exact HC14.out; rfl; exact Rec.one x; kernel_rfl)
                go_roundw
                case rel => exact ⟨m + 1, by omega, by go_num, by rw [HE.out]; rfl, by rw [HE.out]; exact HC14.out.set _, HC16.out.setOther (by omega) _, HC19.out.setOther (by omega) _, below_setRow HD.out (Nat.le_refl _) _, by simp; omega⟩
                case measure => simp [intOf]; omega
            · have hm' : m = states.length := by omega
              subst hm'
              have HE := Lib.hid (wantAt_end (states := states) HG.out)
              clear hB2 h19 ht8
              rcases hcs : (x.rev == n) with _ | _
              · have HL := Lib.hid (lastRev_miss HG.out hcs)
                go_wp2
                go_roundw
                case rel => exact ⟨k + 1, by omega, by go_num, by rw [HE.out], by rw [HL.out], by rw [← HE.out]; exact HC14.out, by rw [HL.out]; exact HC16.out, HD.out, by omega⟩
                case measure => simp [intOf]; omega
              · have HL := Lib.hid (lastRev_hit HG.out hcs)
                go_wp2_with ((with_reducible refine wpList_store_row 16 96 37 (w8.heap.size + 1) 37 #[.string ((lastRev (l.take k) n).getD Rec.zero).rel, .int .i64 ((lastRev (l.take k) n).getD Rec.zero).rev, .int .i64 ((lastRev (l.take k) n).getD Rec.zero).st, .int .i64 ((lastRev (l.take k) n).getD Rec.zero).cmd, .string ((lastRev (l.take k) n).getD Rec.zero).ch, .string ((lastRev (l.take k) n).getD Rec.zero).va, .string ((lastRev (l.take k) n).getD Rec.zero).ma] #[.string (x).rel, .int .i64 (x).rev, .int .i64 (x).st, .int .i64 (x).cmd, .string (x).ch, .string (x).va, .string (x).ma] ?_ ?_ ?_ ?_ ?_ ?_ ?_); rfl; rfl; exact HC16.out; rfl; exact Rec.one x; kernel_rfl)
                go_roundw
                case rel => exact ⟨k + 1, by omega, by go_num, by rw [HE.out], by rw [HL.out]; rfl, by rw [← HE.out]; exact HC14.out.setOther (by omega) _, by rw [HL.out]; exact HC16.out.set _, below_setRow HD.out (by omega) _, by simp; omega⟩
                case measure => simp [intOf]; omega
        · have hk' : k = l.length := by omega
          subst hk'
          rw [List.take_length] at *
          have HBr := Lib.hid (HB8.out.trans (hB.mono hsz8))
          have hszr := HBr.out.size
          have HOr := Lib.hid (HO8.out.below hB (Nat.le_refl _))
          clear hs8 ht8 hB hlt hk
          go_wp2_with fail
          refine (with_any _ _ l states _ HOr.out.sl ((HT.out.below HBr.out).more hszr) (by omega) (by omega)).mono ?_
          rintro e w9 ⟨rfl, hb9⟩
          have H9 := Lib.hid (HBr.out.trans (hb9.mono hszr))
          have HO9 := Lib.hid (HOr.out.below hb9 (Nat.le_refl _))
          have J14 := Lib.hid (HK14.out.below hb9 (by omega))
          have J16 := Lib.hid (HK16.out.below hb9 (by omega))
          have hsz9 := hb9.size
          clear hb9 HK14 HK16
          generalize hws : withS l states = ws at *
          generalize hwr : ws.getD Rec.zero = wsr at *
          generalize hwb : ws.isSome = wsb at *
          clear hws hwr hwb
          go_wp2_with fail
          refine (find_any _ l n _ (HO9.out.alloc _).sl (by omega)).mono ?_
          rintro e w10 ⟨rfl, hb10⟩
          rw [HFR.out]
          have H10 := Lib.hid ((H9.out.alloc (by omega) _).trans (hb10.mono (by simp; omega)))
          have J22 := Lib.hid ((Blk.new w9 29 #[.string (wsr).rel, .int .i64 (wsr).rev, .int .i64 (wsr).st, .int .i64 (wsr).cmd, .string (wsr).ch, .string (wsr).va, .string (wsr).ma] rfl).below hb10 (by simp))
          have L14 := Lib.hid ((J14.out.alloc _).below hb10 (by simp; omega))
          have L16 := Lib.hid ((J16.out.alloc _).below hb10 (by simp; omega))
          have hsz10 := hb10.size
          simp only [World.size_alloc] at hsz10
          clear hb10 J14 J16
          generalize hwf : lastRev l n = wf at *
          generalize hwr : wf.getD Rec.zero = wfr at *
          generalize hwb : wf.isSome = wfb at *
          clear hwf hwr hwb
          go_wp2_with fail
          refine (awake_any _).mono ?_
          rintro e w11 ⟨rfl, hb11⟩
          have H11 := Lib.hid ((H10.out.alloc (by omega) _).trans (hb11.mono (by simp; omega)))
          have k22 := ((J22.out.alloc _).below hb11 (by simp; omega)).cell
          have k24 := ((Blk.new w10 29 #[.string (wfr).rel, .int .i64 (wfr).rev, .int .i64 (wfr).st, .int .i64 (wfr).cmd, .string (wfr).ch, .string (wfr).va, .string (wfr).ma] rfl).below hb11 (by simp)).cell
          have k14 := ((L14.out.alloc _).below hb11 (by simp; omega)).cell
          have k16 := ((L16.out.alloc _).below hb11 (by simp; omega)).cell
          have hself : ∀ r, recEq r r = true := recEq_self
          have e37 := run_eqrec37
          have e29 := run_eqrec29
          have g37 := guard37
          have g29 := guard29
          clear hb11 hsz10 hsz9 hsz8 hsz7 hsz6 hsz5 hsz4 hsz3 hsz2 hsz1 hszr hz h10
          go_wp2
          go_ret
          exact ⟨rfl, H11.out⟩
end Go.Proofs.Ytehmenkofhdmfaa
