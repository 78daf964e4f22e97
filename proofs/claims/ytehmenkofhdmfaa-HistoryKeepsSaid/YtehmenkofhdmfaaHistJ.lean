/-
  HistoryKeeps: the law's walk.
-/
import Derived.Test.YtehmenkofhdmfaaKeepsPlain
import Derived.Test.YtehmenkofhdmfaaMaps
import Derived.Carry
namespace Go.Proofs.Ytehmenkofhdmfaa
set_option linter.unusedSimpArgs false
set_option linter.unusedVariables false
open Go.RowKit Go.Maps

theorem wpList_lookup_Mp1 {K : Type} [DecidableEq K] {P : Program} {t : TypeId} {w : World} {b : Nat} {ops : Array Oper} {rest : List Oper} {tmps : Array Value} {df : List Deferred} {Q : Exit → Act → World → Prop} {d : Option Tmp} {ty0 : TypeId} {ps : String} {af : Array Edge}
    (p q : Tmp) (k e : TypeId) (enc : K → Value) (m : List (K × Value)) (κ : K) (z v : Value) (L : Keyed P k) (hinj : ∀ a c, enc a = enc c → a = c) (ht : P.underlying t = some (.map k e)) (hz : ∀ w, (zeroValue e).run P w = .ok z w) {l : Lit} (hkey : keyOf P k (enc κ) = some l)
    (hp : tmps.getD p undef = .map (some b)) (hq : tmps.getD q undef = enc κ) (hm : Mp P k enc w b m) (hv : (mget m κ).getD z = v)
    (h : wpList P ops Q rest (({ tmps := tmps, defers := df } : Act).put d v) w) :
    wpList P ops Q ({ dst := d, op := .lookup t (.tmp p) (.tmp q) false, type := ty0, pos := ps, after := af, guard := none } :: rest) { tmps := tmps, defers := df } w :=
  wpList_lookup_Mp p q false k e enc m κ z L hinj ht hz hkey hp hq hm (by rw [if_neg (by decide), hv]; exact h)

def encInt (n : Int) : Value := .int .i64 n
theorem encInt_inj (a c : Int) (h : encInt a = encInt c) : a = c := by unfold encInt at h; injection h
theorem intKeyed : Keyed Try.prog 3 := int_keyed Try.underlying3
theorem zeroBool (w : World) : (zeroValue 4).run Try.prog w = .ok (.bool false) w := by kernel_rfl
theorem keyInt {n : Int} (h : 1 ≤ n ∧ n ≤ 1000000) : keyOf Try.prog 3 (encInt n) = some (.int .i64 n) := keyOf_int_mk Try.underlying3 (WalkArith.wf_i64 (by omega))

/-- the map holds just the revisions of these records -/
def Has (m : List (Int × Value)) (O : List Rec) : Prop := ∀ n, (mget m n).getD (.bool false) = .bool ((O.map (·.rev)).contains n)
theorem mget_put (m : List (Int × Value)) (k n : Int) (v : Value) : mget (mput m k v) n = if n = k then some v else mget m n := by
  unfold mput mget
  split
  · rename_i hin
    by_cases e : n = k
    · subst e
      rw [if_pos rfl]
      induction m with
      | nil => simp at hin
      | cons p m ih =>
        by_cases hp : p.1 = n
        · simp [hp]
        · have : n ∈ m.map (·.1) := by simp at hin; rcases hin with h | h; exact absurd h.symm hp; simpa using h
          have h2 := ih this
          simp only [List.map_cons, List.find?_cons, if_neg hp, decide_eq_false hp]
          exact h2
    · rw [if_neg e]
      clear hin
      induction m with
      | nil => rfl
      | cons p m ih =>
        by_cases hp : p.1 = k
        · have h1 : ¬ k = n := fun h => e h.symm
          simp only [List.map_cons, if_pos hp, List.find?_cons, decide_eq_false h1]
          have h2 : ¬ p.1 = n := by rw [hp]; exact h1
          rw [decide_eq_false h2]
          exact ih
        · by_cases hn : p.1 = n
          · simp only [List.map_cons, if_neg hp, List.find?_cons, decide_eq_true hn]
          · simp only [List.map_cons, if_neg hp, List.find?_cons, decide_eq_false hn]
            exact ih
  · rename_i hin
    rw [List.find?_append]
    by_cases e : n = k
    · subst e
      have : m.find? (fun p => decide (p.1 = n)) = none := by
        rw [List.find?_eq_none]
        intro p hp
        simp only [decide_eq_true_eq]
        intro h
        exact hin (List.mem_map.2 ⟨p, hp, h⟩)
      rw [this]
      simp
    · rw [if_neg e]
      have h1 : ¬ k = n := fun h => e h.symm
      cases m.find? (fun p => decide (p.1 = n)) with
      | none => simp [h1]
      | some p => rfl
theorem Has.snoc {m : List (Int × Value)} {O : List Rec} {k : Nat} {r : Rec} (h : Has m (O.take k)) (hr : O[k]? = some r) : Has (mput m r.rev (.bool true)) (O.take (k + 1)) := by
  intro n
  rw [mget_put, List.take_add_one, hr]
  split
  · rename_i e
    subst e
    simp
  · rename_i e
    rw [h n]
    simp [e]

def leftOf (O l : List Rec) : List Rec := l.filter fun r => !gone O r
def spares (b : Option Rec) (l : List Rec) : Nat := (l.filter (spare b)).length
theorem leftOf_le (O l : List Rec) : (leftOf O l).length ≤ l.length := List.length_filter_le _ _
theorem spares_le (b : Option Rec) (l : List Rec) : spares b l ≤ l.length := List.length_filter_le _ _

set_option maxRecDepth 100000 in
set_option maxHeartbeats 8000000 in
theorem historyKeeps_any (v : Value) (l : List Rec) (keep : Int) (w : World) (hs : Sl 7 RecR w w.heap.size v l) (hl : l.length ≤ 2000000000000) :
    Calls Try.prog 4 #[v, .int .i64 keep] w fun e w' => e = .returned (.bool true) ∧ Below w.heap.size w w' := by
  have hmm := @run_makeMap Try.prog
  have HS := Lib.hid hs
  obtain ⟨A, cap, rfl, hc, hs⟩ := hs
  clear hs
  go_enter Try.func4, Try.ntmps4
  go_wp2_with fail
  refine (rising_any _ l _ HS.out hl).mono ?_
  rintro e w1 ⟨rfl, hb1⟩
  have HB1 := Lib.hid hb1
  clear hb1
  rcases hr : rising l with _ | _
  · go_wp2_with fail
    refine (awake_any _).mono ?_
    rintro e w2 ⟨rfl, hb2⟩
    go_wp2
    go_ret
    exact ⟨rfl, HB1.out.trans (hb2.mono HB1.out.size)⟩
  · obtain ⟨hok, h60⟩ := rising_ok hr
    have HOK := Lib.hid hok
    have hkeeps := keeps18 hr keep
    have HKP := Lib.hid hkeeps
    have HP := Lib.hid (rising_pair hr)
    have hol : (old l keep).length ≤ l.length := by have := hkeeps.len; omega
    have HSUB := Lib.hid (show (∀ r ∈ old l keep, 1 ≤ r.rev ∧ r.rev ≤ 1000000) from fun r hr' => by
      obtain ⟨j, h1, _⟩ := oldFrom_shape (base l) (max keep 1) l l.length []
      have h2 : r ∈ ([] : List Rec) ++ (l.filter fun r => !spare (base l) r).take j := by rw [← h1]; exact hr'
      exact hok r (List.mem_filter.1 (List.mem_of_mem_take (by simpa using h2))).1)
    clear hok hr hkeeps
    go_wp2_with fail
    refine (to_any _ l _ ((HS.out.below HB1.out).more HB1.out.size) (by omega)).mono ?_
    rintro e w2 ⟨v2, rfl, hown, hb2⟩
    have HB2 := Lib.hid (HB1.out.trans (hb2.mono HB1.out.size))
    have hsz1 := HB1.out.size
    have hsz2 := HB2.out.size
    have HO := Lib.hid (hown.base hsz1)
    obtain ⟨A2, cap2, rfl⟩ := hown.len
    clear hown hb2
    go_wp2_with fail
    refine (old_any _ l keep _ HO.out.sl (by omega)).mono ?_
    rintro e w3 ⟨v3, rfl, hown3, hb3⟩
    have HB3 := Lib.hid (HB2.out.trans (hb3.mono hsz2))
    have HO3 := Lib.hid (HO.out.below hb3 (Nat.le_refl _))
    have hsz3 := HB3.out.size
    have HP3 := Lib.hid (hown3.base hsz2)
    obtain ⟨A3, cap3, rfl⟩ := hown3.len
    generalize hOO : old l keep = O at *
    have HOO := Lib.hid hOO
    clear hown3 hb3 hOO
    go_wp2_with fail
    refine (base_any _ l _ HO3.out.sl (by omega)).mono ?_
    rintro e w4 ⟨rfl, hb4⟩
    have HB4 := Lib.hid (HB3.out.trans (hb4.mono hsz3))
    have HO4 := Lib.hid (HO3.out.below hb4 (Nat.le_refl _))
    have HP4 := Lib.hid (HP3.out.below hb4 (Nat.le_refl _))
    have hsz4 := HB4.out.size
    clear hb4
    generalize hbb : base l = bb at *
    have HBB := Lib.hid hbb
    clear hbb
    generalize hbr : bb.getD Rec.zero = br at *
    generalize hbo : bb.isSome = bo at *
    have HBR := Lib.hid hbr
    have HBO := Lib.hid hbo
    clear hbr hbo
    go_wp2
    go_loopw [35] (fun i wr => ∃ (k : Nat) (m : List (Int × Value)), k ≤ O.length ∧ i = .int .i64 k ∧ Mp Try.prog 3 encInt wr (w4.heap.size + 1) m ∧ Has m (O.take k) ∧ Blk wr w4.heap.size 29 #[.string (br).rel, .int .i64 (br).rev, .int .i64 (br).st, .int .i64 (br).cmd, .string (br).ch, .string (br).va, .string (br).ma] ∧ Below w4.heap.size w4 wr ∧ w4.heap.size + 2 ≤ wr.heap.size) (fun i _ => O.length - (intOf i).toNat)
    case atStart => exact ⟨0, [], by omega, rfl, Mp.new _ _ _ _ (by simp), fun n => by simp [mget], (Blk.new w4 29 _ rfl).alloc _, ((Below.refl _ _).alloc (Nat.le_refl _) _).alloc (by simp) _, by simp⟩
    case round =>
      obtain ⟨k, m, hk, rfl, hm, hhas, hbk, hB, hz⟩ := hrel
      have HM := Lib.hid hm
      have HH := Lib.hid hhas
      have HK := Lib.hid hbk
      have HB := Lib.hid hB
      have hat : SlAt 7 RecR wr w4.heap.size A3 O := by
        obtain ⟨A', c', he, _, h⟩ := (HP4.out.sl.below hB)
        injection he with he
        subst he
        exact h
      clear hm hhas
      by_cases hlt : k < O.length
      · obtain ⟨b, o, x, rfl, hb, hg, c0, c1, c2, c3, c4, c5, c6⟩ := recs_at hat hlt
        have hmem := List.mem_of_getElem? hg
        have hxb := HSUB.out x hmem
        have hns := HKP.out.nospare x hmem
        have HG := Lib.hid hg
        have kb := hbk.cell
        rw [spare, HBB.out, HBR.out, HBO.out] at hns
        simp only [Bool.or_eq_false_iff, Bool.and_eq_false_iff] at hns
        obtain ⟨hn1, hn2⟩ := hns
        have hz5 : w4.heap.size + 1 < wr.heap.size := by omega
        have hz6 : w4.heap.size < wr.heap.size := by omega
        clear hg hat hB hbk hmem
        have HX := Lib.hid (keyInt hxb)
        rcases bo with _ | _
        all_goals
          first
          | (have hn3 := hn2.resolve_left (by decide); clear hn2)
          | clear hn2
          go_wp2_with (at_mapUpdate; go_must (refine wpList_update_Mp 52 54 (.const (.bool true)) 3 4 encInt m x.rev (.bool true) intKeyed encInt_inj Try.underlying34 HX.out rfl rfl rfl (HM.out.alloc _) ?_); intro w' hm' hg')
          go_wp2
          go_roundw
          case rel => exact ⟨k + 1, mput m x.rev (.bool true), by omega, by go_num, hm', HH.out.snoc HG.out, (HK.out.alloc _).grown hg' (by simp), (HB.out.alloc (by omega) _).grown hg' (by simp; omega) (fun k hk => by injection hk with hk; omega), by have := hg'.size; simp at this; omega⟩
          case measure => simp [intOf]; omega
      · have hk' : k = O.length := by omega
        subst hk'
        rw [List.take_length] at HH
        clear hat hB hbk
        have hat2 : SlAt 7 RecR wr w4.heap.size A2 l := by
          obtain ⟨A', c', he, _, h⟩ := (HO4.out.sl.below HB.out)
          injection he with he
          subst he
          exact h
        obtain ⟨wo, rfl⟩ : ∃ wo : World, wo = wr := ⟨_, rfl⟩
        go_wp2
        go_loopw [12, 13, 58] (fun v c i wr => ∃ (k : Nat), k ≤ l.length ∧ i = .int .i64 k ∧ Own 29 7 RecR wr (w4.heap.size + 2) v (leftOf O (l.take k)) ∧ c = .int .i64 (spares bb (leftOf O (l.take k))) ∧ Below (w4.heap.size + 2) wo wr) (fun _ _ i _ => l.length - (intOf i).toNat)
        case atStart => exact ⟨0, by omega, rfl, Own.nil _ _ _ _ _, rfl, Below.refl _ _⟩
        case round =>
          obtain ⟨k, hk2, rfl, hown, rfl, hC⟩ := hrel
          have HW := Lib.hid hown
          have HC := Lib.hid hC
          have hzc := hC.size
          have hln : (leftOf O (l.take k)).length ≤ k := Nat.le_trans (leftOf_le _ _) (List.length_take_le _ _)
          have hls : (spares bb (leftOf O (l.take k))) ≤ k := Nat.le_trans (spares_le _ _) hln
          by_cases hlt2 : k < l.length
          · obtain ⟨b, o, x, rfl, hb, hg, c0, c1, c2, c3, c4, c5, c6⟩ := recs_at (hat2.below (hC.mono (by omega))) hlt2
            have hmem := List.mem_of_getElem? hg
            have HG := Lib.hid hg
            have HX := Lib.hid (keyInt (HOK.out x hmem))
            have htk : l.take (k + 1) = l.take k ++ [x] := by rw [List.take_add_one, hg]; rfl
            have HTK := Lib.hid htk
            have kb := (HK.out.below hC (by omega)).cell
            have HMM := Lib.hid (HM.out.below hC (by omega))
            have hz5 : w4.heap.size + 1 < wr.heap.size := by omega
            have hz6 : w4.heap.size < wr.heap.size := by omega
            have hv0 := HH.out x.rev
            rw [show (O.map (·.rev)).contains x.rev = gone O x from rfl] at hv0
            clear hg hat2 hC hmem htk hown
            rcases hgo : gone O x with _ | _
            · have HV := Lib.hid (hv0.trans (by rw [hgo]))
              have HF := Lib.hid (show leftOf O (l.take (k + 1)) = (leftOf O (l.take k)) ++ [x] by rw [leftOf, leftOf, HTK.out, List.filter_append]; simp [hgo])
              clear hv0 hgo
              generalize hLL : leftOf O (l.take k) = LL at *
              clear hLL
              go_wp2_with (first | (at_lookup; refine wpList_lookup_Mp1 62 64 3 4 encInt m x.rev (.bool false) (.bool false) intKeyed encInt_inj Try.underlying34 zeroBool HX.out rfl rfl (HMM.out.alloc _) HV.out ?_) | (at_builtin; refine wpList_append1 66 68 25 29 (.agg #[.string ⟨#[]⟩, .int .i64 0, .int .i64 0, .int .i64 0, .string ⟨#[]⟩, .string ⟨#[]⟩, .string ⟨#[]⟩]) 7 88 (w4.heap.size + 2) _ LL x (wr.heap.size + 1) #[.string (x).rel, .int .i64 (x).rev, .int .i64 (x).st, .int .i64 (x).cmd, .string (x).ch, .string (x).va, .string (x).ma] Try.underlying25 info_rec29 rfl (by decide) rfl (HW.out.alloc _ |>.alloc _) rfl (Blk.new _ _ _ (by simp)) rfl rfl (Rec.one x) (by first | omega | (simp; done) | (simp; omega) | (simp [maxLen]; omega) | (unfold maxLen; omega)) (by first | omega | (simp; done) | (simp; omega) | (simp [maxLen]; omega) | (unfold maxLen; omega)) (by first | omega | (simp; done) | (simp; omega) | (simp [maxLen]; omega) | (unfold maxLen; omega)) ?_))
              intro v' w' hown' hgr'
              have hzn := hgr'.size
              simp only [World.size_alloc] at hzn
              have HN := Lib.hid hown'
              have HD := Lib.hid (below_own ((HC.out.alloc (by omega) _).alloc (by simp; omega) _) (HW.out.alloc _ |>.alloc _) hgr' (by first | omega | (simp; done) | (simp; omega) | (simp [maxLen]; omega) | (unfold maxLen; omega)))
              have k15 := (((Blk.new wr 29 #[.string (x).rel, .int .i64 (x).rev, .int .i64 (x).st, .int .i64 (x).cmd, .string (x).ch, .string (x).va, .string (x).ma] rfl).alloc _).grown hgr' (fun e => by have := (HW.out.block _ e.symm).2; omega)).cell
              have k7 := ((((HK.out.below HC.out (by omega)).alloc _).alloc _).grown hgr' (fun e => by have := (HW.out.block _ e.symm).1; omega)).cell
              clear hown' hgr' kb
              rcases hsp : spare bb x with _ | _
              · have HS2 := Lib.hid (show spares bb (LL ++ [x]) = spares bb LL by rw [spares, spares, List.filter_append]; simp [hsp])
                rw [spare, HBR.out, HBO.out] at hsp
                simp only [Bool.or_eq_false_iff, Bool.and_eq_false_iff] at hsp
                obtain ⟨hn1, hn2⟩ := hsp
                rcases bo with _ | _
                all_goals
                  first
                  | (have hn3 := hn2.resolve_left (by decide); clear hn2)
                  | clear hn2
                  go_wp2
                  go_roundw
                  case rel => exact ⟨k + 1, by omega, by go_num, by rw [HF.out]; exact HN.out, by rw [HF.out, HS2.out], HD.out⟩
                  case measure => simp [intOf]; omega
              · have HS2 := Lib.hid (show spares bb (LL ++ [x]) = spares bb LL + 1 by rw [spares, spares, List.filter_append]; simp [hsp])
                rw [spare, HBR.out, HBO.out] at hsp
                simp only [Bool.or_eq_true, Bool.and_eq_true] at hsp
                rcases hn1 : (x.st == 1) with _ | _
                · obtain ⟨hn2, hn3⟩ := hsp.resolve_left (by rw [hn1]; decide)
                  subst hn2
                  clear hsp
                  go_wp2
                  go_roundw
                  case rel => exact ⟨k + 1, by omega, by go_num, by rw [HF.out]; exact HN.out, by rw [HF.out, HS2.out]; go_num, HD.out⟩
                  case measure => simp [intOf]; omega
                · clear hsp
                  go_wp2
                  go_roundw
                  case rel => exact ⟨k + 1, by omega, by go_num, by rw [HF.out]; exact HN.out, by rw [HF.out, HS2.out]; go_num, HD.out⟩
                  case measure => simp [intOf]; omega
            · have HV := Lib.hid (hv0.trans (by rw [hgo]))
              have HF := Lib.hid (show leftOf O (l.take (k + 1)) = (leftOf O (l.take k)) by rw [leftOf, leftOf, HTK.out, List.filter_append]; simp [hgo])
              clear hv0 hgo
              go_wp2_with (at_lookup; go_must (refine wpList_lookup_Mp1 62 64 3 4 encInt m x.rev (.bool false) (.bool true) intKeyed encInt_inj Try.underlying34 zeroBool HX.out rfl rfl (HMM.out.alloc _) HV.out ?_))
              go_roundw
              case rel => exact ⟨k + 1, by omega, by go_num, by rw [HF.out]; exact HW.out.alloc _, by rw [HF.out], HC.out.alloc (by omega) _⟩
              case measure => simp [intOf]; omega
          · have hk3 : k = l.length := by omega
            subst hk3
            rw [List.take_length] at *
            have hkp := HKP.out
            rw [show (l.filter fun r => !gone O r) = leftOf O l from rfl] at hkp
            generalize hLL : leftOf O l = LL at *
            have hlen := hkp.len
            have hst := hkp.stands
            have hfew := hkp.few
            rw [HBB.out] at hst hfew
            rw [show (LL.filter (spare bb)).length = spares bb LL from rfl] at hfew
            have HWs := Lib.hid hown.sl
            obtain ⟨A5, cap5, rfl⟩ := hown.len
            have hB4 := Lib.hid (HB4.out.trans ((HB.out.mono hsz4).trans (hC.mono (by omega))))
            have HK4 := Lib.hid (HK.out.below hC (by omega))
            clear hkp hLL hat2 hC hown
            go_wp2_with fail
            refine (base_any _ LL _ HWs.out (by omega)).mono ?_
            rintro e w5 ⟨rfl, hb5⟩
            have HB5 := Lib.hid (hB4.trans (hb5.mono (by have := hB4.size; omega)))
            have hz5 := HB5.out.size
            have k7 := (HK4.out.below hb5 HK4.out.lt).cell
            have hz7 : w4.heap.size < w5.heap.size := by have h1 := HK4.out.lt; have h2 := hb5.size; omega
            have hself : ∀ r, recEq r r = true := recEq_self
            have e29 := run_neqrec29
            have g29 := guard29
            have hl1 : ((O.length : Int) + LL.length == l.length) = true := by simp; omega
            have fin : ∀ w6, Below w5.heap.size (w5.alloc (.cells #[.string ((base LL).getD Rec.zero).rel, .int .i64 ((base LL).getD Rec.zero).rev, .int .i64 ((base LL).getD Rec.zero).st, .int .i64 ((base LL).getD Rec.zero).cmd, .string ((base LL).getD Rec.zero).ch, .string ((base LL).getD Rec.zero).va, .string ((base LL).getD Rec.zero).ma] 29)) w6 → Below w.heap.size w w6 := fun w6 h => (HB5.out.alloc hz5 _).trans (h.mono hz5)
            have FIN := Lib.hid fin
            have HL1 := Lib.hid hl1
            clear hb5 hB4 fin hzc hln hls hol
            have tests : ((LL.length : Int) ≤ (if keep < 1 then 1 else keep)) ∨ (¬ (LL.length : Int) ≤ (if keep < 1 then 1 else keep)) ∧ spares bb LL = LL.length := by
              by_cases h1 : (LL.length : Int) ≤ (if keep < 1 then 1 else keep)
              · exact .inl h1
              · refine .inr ⟨h1, hfew.resolve_left (fun h2 => h1 ?_)⟩
                split <;> omega
            have HT := Lib.hid tests
            clear tests hfew
            rcases bo with _ | _
            · clear hst e29 g29 hself k7
              go_wp2_with fail
              refine (awake_any _).mono ?_
              rintro e w6 ⟨rfl, hb6⟩
              have HE := Lib.hid (FIN.out w6 (hb6.mono (by simp)))
              have hl1 := HL1.out
              clear hb6
              rcases Int.lt_or_le keep 1 with hk1 | hk1
              all_goals
                rcases HT.out with h1 | ⟨h1, h2⟩
                all_goals
                  first | rw [if_pos hk1] at h1 | rw [if_neg (by omega)] at h1
                  try rw [h2]
                  clear HT
                  go_wp2
                  go_ret
                  exact ⟨rfl, HE.out⟩
            · have hbb : bb = some br := by
                have h1 := HBO.out
                have h2 := HBR.out
                cases bb with
                | none => cases h1
                | some y => rw [← h2]; rfl
              rw [hst br hbb]
              rw [hst br hbb] at FIN
              simp only [Option.getD_some, Option.isSome_some] at FIN ⊢
              clear hst hbb
              go_wp2_with fail
              refine (awake_any _).mono ?_
              rintro e w6 ⟨rfl, hb6⟩
              have HE := Lib.hid (FIN.out w6 (hb6.mono (by simp)))
              have hl1 := HL1.out
              clear hb6 e29 g29 hself k7
              rcases Int.lt_or_le keep 1 with hk1 | hk1
              all_goals
                rcases HT.out with h1 | ⟨h1, h2⟩
                all_goals
                  first | rw [if_pos hk1] at h1 | rw [if_neg (by omega)] at h1
                  try rw [h2]
                  clear HT
                  go_wp2
                  go_ret
                  exact ⟨rfl, HE.out⟩
end Go.Proofs.Ytehmenkofhdmfaa
