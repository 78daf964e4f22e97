/-
  The walks of the functions on revisions, seventh part: Find, the document's example.
-/
import Derived.Test.YtehmenkofhdmfaaHistF
namespace Go.Proofs.Ytehmenkofhdmfaa
set_option linter.unusedSimpArgs false
set_option linter.unusedVariables false
open Go.RowKit

set_option maxHeartbeats 1000000 in
theorem find1_any (r : Rec) (g : Nat) (n : Int) (w : World) (hc : w.cell? ⟨g, 0, none⟩ = some (.int .i64 n)) (hg : g < w.heap.size) :
    Calls Try.prog 35 #[.agg #[.string (r).rel, .int .i64 (r).rev, .int .i64 (r).st, .int .i64 (r).cmd, .string (r).ch, .string (r).va, .string (r).ma], .pointer (some ⟨g, 0, none⟩)] w fun e w' => e = .returned (.bool (r.rev == n)) ∧ Below w.heap.size w w' := by
  go_enter Try.func35, Try.ntmps35
  go_wp2
  go_ret
  exact ⟨rfl, (Below.refl _ _).alloc (Nat.le_refl _) _⟩

def idxP {α : Type} (p : α → Bool) (l : List α) : Int := match l.findIdx? p with | some i => i | none => -1
theorem idxP_at {α : Type} {p : α → Bool} {l : List α} {y : α} {k : Nat} (h : ∀ j y, j < k → l[j]? = some y → p y = false) (hk : l[k]? = some y) (e : p y = true) : idxP p l = k := by
  unfold idxP
  have hlt := (List.getElem?_eq_some_iff.1 hk).1
  have : l.findIdx? p = some k := List.findIdx?_eq_some_iff_getElem.2 ⟨hlt, by rw [(List.getElem?_eq_some_iff.1 hk).2]; exact e, fun j hj => by
    have := h j _ hj (List.getElem?_eq_getElem (by omega))
    simpa using this⟩
  rw [this]
theorem idxP_none {α : Type} {p : α → Bool} {l : List α} (h : ∀ j y, j < l.length → l[j]? = some y → p y = false) : idxP p l = -1 := by
  unfold idxP
  have : l.findIdx? p = none := List.findIdx?_eq_none_iff.2 fun y hy => by
    obtain ⟨j, hj, rfl⟩ := List.getElem_of_mem hy
    exact h j _ hj (List.getElem?_eq_getElem hj)
  rw [this]
/-- what stands at the index that was found -/
theorem idxP_find {α : Type} (p : α → Bool) (l : List α) : (idxP p l = -1 ∧ l.find? p = none) ∨ ∃ (k : Nat) (x : α), idxP p l = k ∧ k < l.length ∧ l[k]? = some x ∧ l.find? p = some x := by
  unfold idxP
  cases h : l.findIdx? p with
  | none =>
    left
    refine ⟨rfl, ?_⟩
    rw [List.findIdx?_eq_none_iff] at h
    exact List.find?_eq_none.2 fun x hx => by simp [h x hx]
  | some k =>
    right
    obtain ⟨hk, hp, hno⟩ := List.findIdx?_eq_some_iff_getElem.1 h
    refine ⟨k, l[k], rfl, hk, List.getElem?_eq_getElem hk, ?_⟩
    rw [List.find?_eq_some_iff_getElem]
    exact ⟨hp, k, hk, rfl, fun j hj => by simpa using hno j hj⟩

set_option maxHeartbeats 1000000 in
theorem findIdx_any (v : Value) (l : List Rec) (g : Nat) (n : Int) (w : World) (hs : Sl 7 RecR w w.heap.size v l) (hl : l.length ≤ 1000000) (hc : w.cell? ⟨g, 0, none⟩ = some (.int .i64 n)) (hg : g < w.heap.size) :
    Calls Try.prog 34 #[v, .func (.func 35) #[] #[.pointer (some ⟨g, 0, none⟩)]] w fun e w' =>
      e = .returned (.int .i64 (idxP (fun (r : Rec) => r.rev == n) l)) ∧ Below w.heap.size w w' := by
  obtain ⟨A, cap, rfl, hcap, hs⟩ := hs
  go_enter Try.func34, Try.ntmps34
  go_wp2
  go_loopw [8] (fun i wr => ∃ k : Nat, k ≤ l.length ∧ i = .int .i64 k ∧ Hid (∀ j (y : Rec), j < k → l[j]? = some y → (y.rev == n) = false) ∧ Below w.heap.size w wr) (fun i _ => l.length - (intOf i).toNat)
  case atStart => exact ⟨0, by omega, rfl, Lib.hid (fun j y hj => by omega), Below.refl _ _⟩
  case round =>
    obtain ⟨k, hk, rfl, hno, hB⟩ := hrel
    have HB := Lib.hid hB
    by_cases hlt : k < l.length
    · obtain ⟨b, o, x, rfl, hb, hgx, c0, c1, c2, c3, c4, c5, c6⟩ := recs_at (hs.below hB) hlt
      have HG := Lib.hid hgx
      have hsz := hB.size
      have HC := Lib.hid (show wr.cell? ⟨g, 0, none⟩ = some (.int .i64 n) by rw [bcell hB g 0 hg, hc])
      clear hgx hs hB hc
      rcases hcon : (x.rev == n) with _ | _
      · have HQ := Lib.hid hcon
        clear hcon
        go_wp2_with (go_at_call 35; refine (find1_any x g n _ HC.out (by omega)).mono ?_; rintro e w1 ⟨rfl, hb1⟩; rw [HQ.out])
        go_wp2
        go_roundw
        case rel => exact ⟨k + 1, by omega, by go_num, Lib.hid (fun j z hj hz => by
          rcases Nat.lt_or_ge j k with h1 | h1
          · exact hno.out j z h1 hz
          · obtain rfl : j = k := by omega
            have := HG.out.symm.trans hz
            injection this with this
            subst this
            exact HQ.out), HB.out.trans (hb1.mono hsz)⟩
        case measure => simp [intOf]; omega
      · have HQ := Lib.hid hcon
        clear hcon
        go_wp2_with (go_at_call 35; refine (find1_any x g n _ HC.out (by omega)).mono ?_; rintro e w1 ⟨rfl, hb1⟩; rw [HQ.out])
        go_wp2
        go_ret
        exact ⟨ret_int (idxP_at (p := fun (r : Rec) => r.rev == n) hno.out HG.out HQ.out).symm, HB.out.trans (hb1.mono hsz)⟩
    · go_wp2
      go_ret
      have : k = l.length := by omega
      subst this
      exact ⟨ret_int (idxP_none (p := fun (r : Rec) => r.rev == n) hno.out).symm, hB⟩

def findRev (l : List Rec) (n : Int) : Option Rec := l.find? fun (r : Rec) => r.rev == n
set_option maxHeartbeats 1000000 in
theorem find_any (v : Value) (l : List Rec) (n : Int) (w : World) (hs : Sl 7 RecR w w.heap.size v l) (hl : l.length ≤ 1000000) :
    Calls Try.prog 19 #[v, .int .i64 n] w fun e w' =>
      e = .returned (.tuple #[.agg #[.string ((findRev l n).getD Rec.zero).rel, .int .i64 ((findRev l n).getD Rec.zero).rev, .int .i64 ((findRev l n).getD Rec.zero).st, .int .i64 ((findRev l n).getD Rec.zero).cmd, .string ((findRev l n).getD Rec.zero).ch, .string ((findRev l n).getD Rec.zero).va, .string ((findRev l n).getD Rec.zero).ma], .bool (findRev l n).isSome]) ∧ Below w.heap.size w w' := by
  have HS := Lib.hid hs
  obtain ⟨A, cap, rfl, hc, hs⟩ := hs
  have hb0 : Below w.heap.size w ((w.alloc (.cells #[.int .i64 n] 3)).alloc (.cells #[.string ⟨#[]⟩, .int .i64 0, .int .i64 0, .int .i64 0, .string ⟨#[]⟩, .string ⟨#[]⟩, .string ⟨#[]⟩] 29)) := ((Below.refl _ _).alloc (Nat.le_refl _) _).alloc (by simp) _
  have HS2 := Lib.hid ((HS.out.below hb0).more hb0.size)
  have HB := Lib.hid hb0
  clear hb0
  go_enter Try.func19, Try.ntmps19
  go_wp2_with fail
  refine (findIdx_any _ l w.heap.size n _ HS2.out hl (by simp [World.cell?_alloc_at]) (by simp; omega)).mono ?_
  rintro e w1 ⟨rfl, hb⟩
  have HB' := Lib.hid (HB.out.trans (hb.mono HB.out.size))
  have HK := Lib.hid ((Blk.new (w.alloc (.cells #[.int .i64 n] 3)) 29 #[.string ⟨#[]⟩, .int .i64 0, .int .i64 0, .int .i64 0, .string ⟨#[]⟩, .string ⟨#[]⟩, .string ⟨#[]⟩] (k := w.heap.size + 1) (by simp)).below hb (by simp))
  have hs1 := hs.below HB'.out
  clear HS HS2 HB hb hs
  rcases idxP_find (fun (r : Rec) => r.rev == n) l with ⟨hi, hf⟩ | ⟨k, x, hi, hk, hx, hf⟩
  · have H0 := Lib.hid (show findRev l n = none from hf)
    rw [hi]
    clear hi hf hs1
    go_wp2_with ((with_reducible refine wpList_store_row 4 12 29 (w.heap.size + 1) 29 #[.string ⟨#[]⟩, .int .i64 0, .int .i64 0, .int .i64 0, .string ⟨#[]⟩, .string ⟨#[]⟩, .string ⟨#[]⟩] #[.string ⟨#[]⟩, .int .i64 0, .int .i64 0, .int .i64 0, .string ⟨#[]⟩, .string ⟨#[]⟩, .string ⟨#[]⟩] ?_ ?_ ?_ ?_ ?_ ?_ ?_); rfl; rfl; exact HK.out; rfl; exact Rec.one0; kernel_rfl)
    refine bodyPost_ret (results_cell_tmp_row rfl _ _ _ _ _ _ rfl (HK.out.set _) Try.underlying29 rfl (by kernel_rfl)) rfl ⟨by rw [H0.out]; rfl, ?_⟩
    exact below_setRow HB'.out (by omega) _
  · have H0 := Lib.hid (show findRev l n = some x from hf)
    rw [hi]
    obtain ⟨b, o, y, rfl, hb, hg, c0, c1, c2, c3, c4, c5, c6⟩ := recs_at hs1 hk
    obtain rfl : x = y := by rw [hx] at hg; injection hg
    clear hi hf hs1 hg hx
    go_wp2_with ((with_reducible refine wpList_store_row 4 16 29 (w.heap.size + 1) 29 #[.string ⟨#[]⟩, .int .i64 0, .int .i64 0, .int .i64 0, .string ⟨#[]⟩, .string ⟨#[]⟩, .string ⟨#[]⟩] #[.string (x).rel, .int .i64 (x).rev, .int .i64 (x).st, .int .i64 (x).cmd, .string (x).ch, .string (x).va, .string (x).ma] ?_ ?_ ?_ ?_ ?_ ?_ ?_); rfl; rfl; exact HK.out; rfl; exact Rec.one x; kernel_rfl)
    refine bodyPost_ret (results_cell_tmp_row rfl _ _ _ _ _ _ rfl (HK.out.set _) Try.underlying29 rfl (by kernel_rfl)) rfl ⟨by rw [H0.out]; rfl, ?_⟩
    exact below_setRow HB'.out (by omega) _

theorem litRecs (w : World) {k : Nat} (hk : w.heap.size = k) (a b : Rec) : Sl 7 RecR (w.alloc (.cells #[.string a.rel, .int .i64 a.rev, .int .i64 a.st, .int .i64 a.cmd, .string a.ch, .string a.va, .string a.ma, .string b.rel, .int .i64 b.rev, .int .i64 b.st, .int .i64 b.cmd, .string b.ch, .string b.va, .string b.ma] 29)) (k + 1) (.slice (some ⟨k, 0, none⟩) 2 2) [a, b] :=
  Sl.lit (size := 7) (R := RecR) w _ _ [a, b] hk rfl rfl (by simp [maxLen]) fun i x hi => by
    match i, hi with
    | 0, rfl => rfl
    | 1, rfl => rfl

theorem awake_any (w : World) : Calls Try.prog 9 #[] w fun e w' => e = .returned (.bool true) ∧ Below w.heap.size w w' := by
  have h1 := litRecs w (k := w.heap.size) rfl ⟨⟨#[]⟩, 1, 3, 0, ⟨#[]⟩, ⟨#[]⟩, ⟨#[]⟩⟩ ⟨⟨#[]⟩, 2, 4, 0, ⟨#[]⟩, ⟨#[]⟩, ⟨#[]⟩⟩
  have H1 := Lib.hid h1
  clear h1
  go_enter Try.func9, Try.ntmps9
  go_wp2_with fail
  refine (base_any _ [⟨⟨#[]⟩, 1, 3, 0, ⟨#[]⟩, ⟨#[]⟩, ⟨#[]⟩⟩, ⟨⟨#[]⟩, 2, 4, 0, ⟨#[]⟩, ⟨#[]⟩, ⟨#[]⟩⟩] _ (H1.out.more (by simp)) (by decide)).mono ?_
  rintro e w1 ⟨rfl, hb⟩
  have hb0 : base [⟨⟨#[]⟩, 1, 3, 0, ⟨#[]⟩, ⟨#[]⟩, ⟨#[]⟩⟩, ⟨⟨#[]⟩, 2, 4, 0, ⟨#[]⟩, ⟨#[]⟩, ⟨#[]⟩⟩] = some ⟨⟨#[]⟩, 1, 3, 0, ⟨#[]⟩, ⟨#[]⟩, ⟨#[]⟩⟩ := by rfl
  rw [hb0]
  have HW := Lib.hid ((Below.refl w.heap.size w).alloc (Nat.le_refl _) (.cells #[.string ⟨#[]⟩, .int .i64 1, .int .i64 3, .int .i64 0, .string ⟨#[]⟩, .string ⟨#[]⟩, .string ⟨#[]⟩, .string ⟨#[]⟩, .int .i64 2, .int .i64 4, .int .i64 0, .string ⟨#[]⟩, .string ⟨#[]⟩, .string ⟨#[]⟩] 29) |>.trans (hb.mono (by simp)))
  simp only [World.size_alloc] at hb
  have HB := Lib.hid hb
  have hsz := hb.size
  simp only [World.size_alloc] at hsz
  clear hb hb0
  go_wp2_with fail
  refine (next_any _ [⟨⟨#[]⟩, 1, 3, 0, ⟨#[]⟩, ⟨#[]⟩, ⟨#[]⟩⟩, ⟨⟨#[]⟩, 2, 4, 0, ⟨#[]⟩, ⟨#[]⟩, ⟨#[]⟩⟩] _ ((H1.out.below (HB.out.alloc hsz _)).more (by simp; omega)) (by decide) ?_).mono ?_
  · intro r hr
    simp at hr
    rcases hr with rfl | rfl <;> simp
  rintro e w2 ⟨rfl, hb2⟩
  have hm : maxRev [⟨⟨#[]⟩, 1, 3, 0, ⟨#[]⟩, ⟨#[]⟩, ⟨#[]⟩⟩, ⟨⟨#[]⟩, 2, 4, 0, ⟨#[]⟩, ⟨#[]⟩, ⟨#[]⟩⟩] + 1 = 3 := by rfl
  rw [hm]
  go_wp2
  go_ret
  exact ⟨rfl, (HW.out.alloc (by omega) _).trans (hb2.mono (by simp; omega))⟩
end Go.Proofs.Ytehmenkofhdmfaa
