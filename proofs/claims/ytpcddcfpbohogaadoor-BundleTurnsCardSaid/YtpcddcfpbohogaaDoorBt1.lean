/-
  The law's function BundleTurns, walked.
-/
import Derived.Test.YtpcddcfpbohogaaDoorPk
import Derived.Test.YtpcddcfpbohogaaDoorFnv
import Derived.Test.YtpcddcfpbohogaaDoorFrame
import Derived.Test.YtpcddcfpbohogaaDoorSlR
import Derived.Laws.IdiomStrings
import Derived.Lib.ConvBytes
namespace Go.Proofs.YtpcddcfpbohogaaDoor
set_option linter.unusedSimpArgs false
set_option linter.unusedVariables false
open Go.RowKit

def FlR (cs : List Value) (p : Fl) : Prop := cs = [.string p.1, .string p.2]
theorem info_file : (Tryd.prog.info? 36).map (fun i => (i.zero, i.size, i.bytes)) = some (some (.agg #[.string ⟨#[]⟩, .string ⟨#[]⟩]), 2, 32) := by kernel_rfl
theorem flR_rel {σ : Sg} : ∀ cs p, FlR cs p → RelL σ cs [.str p.1, .str p.2] := by
  rintro cs p rfl
  exact .cons (.str _) (.cons (.str _) .nil)
theorem ac_bool {f : FuncId} {args : List AV} {b : Bool} (h : AC Tryd.prog f args (.bool b)) {σ : Sg} {w : World} {vs : List Value} (hh : Holds σ w) (hr : RelPs σ vs args) (hg : GW w) : Calls Tryd.prog f vs.toArray w fun e w' => e = .returned (.bool b) ∧ Below w.heap.size w w' := by
  refine (h.run σ w vs hh hr hg).mono ?_
  rintro e w' ⟨σ', v, rfl, _, _, hb, hr⟩
  have hr : Rel1 σ' v (.bool b) := hr
  cases hr
  exact ⟨rfl, hb⟩
theorem ac_int {f : FuncId} {args : List AV} {k : IntKind} {n : Int} (h : AC Tryd.prog f args (.int k n)) {σ : Sg} {w : World} {vs : List Value} (hh : Holds σ w) (hr : RelPs σ vs args) (hg : GW w) : Calls Tryd.prog f vs.toArray w fun e w' => e = .returned (.int k n) ∧ Below w.heap.size w w' := by
  refine (h.run σ w vs hh hr hg).mono ?_
  rintro e w' ⟨σ', v, rfl, _, _, hb, hr⟩
  have hr : Rel1 σ' v (.int k n) := hr
  cases hr
  exact ⟨rfl, hb⟩
theorem ac_str_int {f : FuncId} {args : List AV} {s : ByteArray} {k : IntKind} {n : Int} (h : AC Tryd.prog f args (.tup [.str s, .int k n])) {σ : Sg} {w : World} {vs : List Value} (hh : Holds σ w) (hr : RelPs σ vs args) (hg : GW w) : Calls Tryd.prog f vs.toArray w fun e w' => e = .returned (.tuple #[.string s, .int k n]) ∧ Below w.heap.size w w' := by
  refine (h.run σ w vs hh hr hg).mono ?_
  rintro e w' ⟨σ', v, rfl, _, _, hb, hr⟩
  obtain ⟨vs2, rfl, hl, hr⟩ : ∃ vs : List Value, v = .tuple vs.toArray ∧ vs.length = 2 ∧ ∀ (j : Nat) u x, vs[j]? = some u → [AV.str s, AV.int k n][j]? = some x → RelP σ' u x := hr
  obtain ⟨a, b, rfl⟩ : ∃ a b, vs2 = [a, b] := by
    rcases vs2 with _ | ⟨a, _ | ⟨b, _ | ⟨c, l⟩⟩⟩ <;> simp at hl
    exact ⟨a, b, rfl⟩
  have r0 : Rel1 σ' a (.str s) := hr 0 a _ rfl rfl
  have r1 : Rel1 σ' b (.int k n) := hr 1 b _ rfl rfl
  cases r0; cases r1
  exact ⟨rfl, hb⟩
theorem relOne {σ : Sg} {v : Value} {a : AV} (h : RelP σ v a) : RelPs σ [v] [a] := ⟨rfl, fun j u x hu hx => by
  rcases j with _ | j <;> simp at hu hx
  subst hu hx
  exact h⟩
theorem conv_bytes (s : ByteArray) (w : World) : ∃ cap w', (convert 9 40 (.string s)).run Tryd.prog w = .ok (.slice (some ⟨w.heap.size, 0, none⟩) s.size cap) w' ∧ Below w.heap.size w w' ∧ w.heap.size < w'.heap.size ∧
    (∀ (j : Nat) (hj : j < s.size), w'.cell? ⟨w.heap.size, j, none⟩ = some (.int .u8 s[j].toNat)) ∧ ∀ j, j < s.size → w'.frozen? ⟨w.heap.size, j, none⟩ = false := by
  refine ⟨_, _, run_bytes_of_string w 9 40 5 s Tryd.underlying9 Tryd.underlying40 Tryd.underlying5, ?_, ?_, ?_, ?_⟩
  · exact ((Below.refl _ _).drew.alloc (Nat.le_refl _) _)
  · show w.heap.size < (w.heap.push _).size
    simp
  · intro j hj
    have h : (w.drew.alloc (.cells (bytesRow s (grownCap w s.size 0 5)) 5 ((bytesRow s (grownCap w s.size 0 5)).size, (bytesRow s (grownCap w s.size 0 5)).size + 1))).heap[w.heap.size]? = some (.cells (bytesRow s (grownCap w s.size 0 5)) 5 ((bytesRow s (grownCap w s.size 0 5)).size, (bytesRow s (grownCap w s.size 0 5)).size + 1)) := heap_alloc_new w.drew _
    rw [Lib.cell_of_heap h, bytesRow, Array.getElem?_append_left (by simpa using hj), Array.getElem?_map, Array.getElem?_eq_getElem hj]
    rfl
  · intro j hj
    have h : (w.drew.alloc (.cells (bytesRow s (grownCap w s.size 0 5)) 5 ((bytesRow s (grownCap w s.size 0 5)).size, (bytesRow s (grownCap w s.size 0 5)).size + 1))).heap[w.heap.size]? = some (.cells (bytesRow s (grownCap w s.size 0 5)) 5 ((bytesRow s (grownCap w s.size 0 5)).size, (bytesRow s (grownCap w s.size 0 5)).size + 1)) := heap_alloc_new w.drew _
    have hz : s.size ≤ (bytesRow s (grownCap w s.size 0 5)).size := by rw [bytesRow, Array.size_append, Array.size_map]; exact Nat.le_add_right _ _
    simp only [World.frozen?, h, Bool.and_eq_false_iff, decide_eq_false_iff_not]
    omega
theorem sumI_J (s : ByteArray) : ∀ k, sumI s k = sumJ s k
  | 0 => rfl
  | k + 1 => by rw [sumI, sumJ, sumI_J s k]
theorem xor_all : (List.range 8).all (fun k => (List.range 256).all fun c => decide (0 ≤ bits .xor .u8 (c : Int) (2 ^ k % 256) ∧ bits .xor .u8 (c : Int) (2 ^ k % 256) < 256 ∧ bits .xor .u8 (c : Int) (2 ^ k % 256) ≠ c)) = true := by decide +kernel
theorem xor_turn (c : UInt8) {k : Nat} (hk : k < 8) : ∃ d : UInt8, d ≠ c ∧ bits .xor .u8 (c.toNat : Int) (2 ^ k % 256) = (d.toNat : Int) := by
  have h1 := List.all_eq_true.1 xor_all k (List.mem_range.2 hk)
  have h2 := List.all_eq_true.1 h1 c.toNat (List.mem_range.2 c.toNat_lt)
  obtain ⟨h3, h4, h5⟩ := of_decide_eq_true h2
  have e : (((bits .xor .u8 (c.toNat : Int) (2 ^ k % 256)).toNat.toUInt8).toNat : Int) = bits .xor .u8 (c.toNat : Int) (2 ^ k % 256) := by
    rw [Nat.toUInt8_eq, UInt8.toNat_ofNat']
    omega
  exact ⟨_, fun e2 => h5 (by rw [← e, e2]), e.symm⟩
theorem turned_cells {w5 w7 : World} {g r : Nat} {s : ByteArray} {d : UInt8} (him : r < s.size) (c5 : ∀ (j : Nat) (hj : j < s.size), w5.cell? ⟨g, j, none⟩ = some (.int .u8 s[j].toNat)) (hg : g < w5.heap.size) (b7 : Below (w5.setCell ⟨g, r, none⟩ (.int .u8 d.toNat)).heap.size (w5.setCell ⟨g, r, none⟩ (.int .u8 d.toNat)) w7)
    (n6 : (w5.setCell ⟨g, r, none⟩ (.int .u8 d.toNat)).heap.size = w5.heap.size) : ∀ (j : Nat) (hj : j < (s.data.toList.set r d).length), w7.cell? ⟨g, j, none⟩ = some (.int .u8 (s.data.toList.set r d)[j].toNat) := by
  intro j hj
  have hj2 : j < s.size := by rw [List.length_set] at hj; exact hj
  refine (b7.cell (p := ⟨g, j, none⟩) (by rw [n6]; exact hg)).trans ?_
  by_cases e : r = j
  · subst e
    rw [World.cell?_setCell_same _ _ _ (c5 r him), List.getElem_set_self]
  · rw [World.cell?_setCell_other _ _ _ _ (fun h => e (congrArg Addr.off h)), c5 j hj2, List.getElem_set_ne e]
    rfl
theorem conv_back {w : World} {g cap n : Nat} {l : List UInt8} (hn : l.length = n) (hc : ∀ (j : Nat) (hj : j < l.length), w.cell? ⟨g, j, none⟩ = some (.int .u8 l[j].toNat)) :
    (convert 40 9 (.slice (some ⟨g, 0, none⟩) n cap)).run Tryd.prog w = .ok (.string ⟨l.toArray⟩) w := by
  subst hn
  refine run_convert_bytes_back w 40 9 5 ⟨g, 0, none⟩ cap _ Tryd.underlying40 Tryd.underlying5 Tryd.underlying9 fun j hj => ?_
  rw [Addr.add_lit, Nat.zero_add]
  exact hc j hj
theorem turned_ne {s : ByteArray} {r : Nat} {d : UInt8} (him : r < s.size) (hd : d ≠ s[r]) : (sumI ⟨(s.data.toList.set r d).toArray⟩ s.size == sumI s s.size) = false := by
  rw [sumI_J, sumI_J, beq_eq_false_iff_ne]
  have hz : (ByteArray.mk (s.data.toList.set r d).toArray).size = s.size := by
    show (s.data.toList.set r d).toArray.size = _
    rw [List.size_toArray, List.length_set]; rfl
  have := sumJ_turn (t := ⟨(s.data.toList.set r d).toArray⟩) him hd rfl
  rwa [hz] at this
def lsum : List Fl → Nat
  | [] => 0
  | p :: l => p.1.size + p.2.size + 1 + lsum l
theorem lsum_app : ∀ a b : List Fl, lsum (a ++ b) = lsum a + lsum b
  | [], b => by simp [lsum]
  | p :: a, b => by rw [List.cons_append, lsum, lsum, lsum_app a b]; omega
theorem lsum_mem {p : Fl} : ∀ {l : List Fl}, p ∈ l → p.1.size + p.2.size ≤ lsum l
  | q :: l, h => by
    rw [lsum]
    rcases List.mem_cons.1 h with rfl | h
    · omega
    · have := lsum_mem h; omega
theorem lsum_le {l : List Fl} (h : ∀ p ∈ l, p.1.size ≤ 140737488355328 ∧ p.2.size ≤ 140737488355328) : lsum l ≤ l.length * 281474976710657 := by
  induction l with
  | nil => exact Nat.zero_le _
  | cons p l ih =>
    have h1 := ih fun q hq => h q (by simp [hq])
    have h2 := h p (by simp)
    rw [lsum, List.length_cons]
    omega
theorem light_sum {l : List Fl} (h32 : l.length ≤ 32) (h : ∀ p ∈ l, p.1.size ≤ 140737488355328 ∧ p.2.size ≤ 140737488355328) : ∀ k, k ≤ l.length → lightN l k = (lsum (l.take k) : Nat)
  | 0, _ => rfl
  | k + 1, hk => by
    obtain ⟨p, hg⟩ : ∃ x, l[k]? = some x := ⟨_, List.getElem?_eq_getElem (by omega)⟩
    have hd : l.getD k (⟨#[]⟩, ⟨#[]⟩) = p := by rw [List.getD_eq_getElem?_getD, hg]; rfl
    have hp := h p (List.mem_of_getElem? hg)
    have e : l.take (k + 1) = l.take k ++ [p] := by rw [List.take_add_one, hg]; rfl
    have h1 : lsum (l.take k) ≤ 32 * 281474976710657 := by
      have := lsum_le (l := l.take k) fun q hq => h q (List.mem_of_mem_take hq)
      have h3 : (l.take k).length ≤ 32 := by rw [List.length_take]; omega
      exact Nat.le_trans this (Nat.mul_le_mul_right _ h3)
    rw [lightN, light_sum h32 h k (by omega), hd, e, lsum_app, lsum, lsum, wrap_in (n := (p.1.size : Int) + (p.2.size : Int)) (by omega) (by omega), wrap_in (n := (p.1.size : Int) + (p.2.size : Int) + 1) (by omega) (by omega), wrap_in (by omega) (by omega)]
    omega
theorem light_small {l : List Fl} (h32 : l.length ≤ 32) (h : ∀ p ∈ l, p.1.size ≤ 140737488355328 ∧ p.2.size ≤ 140737488355328) (hl : lightN l l.length ≤ 3000) : ∀ p ∈ l, p.1.size ≤ 1000000 ∧ p.2.size ≤ 1000000 := fun p hp => by
  rw [light_sum h32 h _ (Nat.le_refl _), List.take_length] at hl
  have := lsum_mem hp
  omega
set_option maxHeartbeats 2000000 in
set_option maxRecDepth 100000 in
theorem bundleTurns_any (l : List Fl) (by_ at_ bit : Int) (s : ByteArray) (σ : Sg) (w : World) (A : Option Addr) (c : Nat) (hl : l.length ≤ 4398046511103) (hp : ∀ p ∈ l, p.1.size ≤ 140737488355328 ∧ p.2.size ≤ 140737488355328) (hs : s.size ≤ 140737488355328)
    (h1 : 0 ≤ by_ ∧ by_ < 256) (h2 : 0 ≤ at_ ∧ at_ < 65536) (h3 : 0 ≤ bit ∧ bit < 256) (hh : Holds σ w) (hr : Rel1 σ (.slice A l.length c) (.lst .any 2 (rowsF l))) (hg : GW w) :
    Calls Tryd.prog 4 #[.slice A l.length c, .int .u8 by_, .string s, .int .u16 at_, .int .u8 bit] w fun e w' => e = .returned (.bool true) ∧ Below w.heap.size w w' := by
  have HH := Lib.hid (show ∀ w', Below w.heap.size w w' → Holds σ w' from fun w' hb b q v hv => (hb.cell (p := ⟨b, q, none⟩) (World.block_lt_of_cell? w _ (hh _ _ _ hv))).trans (hh _ _ _ hv))
  have HG := Lib.hid (show ∀ w', Below w.heap.size w w' → GW w' from fun w' hb => hg.below hb)
  have HR := Lib.hid hr
  have hL : ∀ w', Below w.heap.size w w' → Calls Tryd.prog 13 #[.slice A l.length c] w' fun e w2 => e = .returned (.bool (decide (lightN l l.length ≤ 3000))) ∧ Below w'.heap.size w' w2 := fun w' hb => ac_bool (vs := [.slice A l.length c]) (light_a l (by omega)) (HH.out w' hb) (relOne HR.out) (HG.out w' hb)
  have hAw : ∀ w', Below w.heap.size w w' → Calls Tryd.prog 14 #[] w' fun e w2 => e = .returned (.bool true) ∧ Below w'.heap.size w' w2 := fun w' hb => ac_bool (vs := []) awake22_a (HH.out w' hb) ⟨rfl, fun j v a h => by simp at h⟩ (HG.out w' hb)
  have HL := Lib.hid hL
  have HA := Lib.hid hAw
  clear hL hAw hh hr hg
  generalize hlt : decide (lightN l l.length ≤ 3000) = lt at HL
  have H0 := Lib.hid hlt
  have H1 := Lib.hid hp
  clear hlt hp
  rcases lt with _ | _
  · go_enter Tryd.func4, Tryd.ntmps4
    go_wp2_with (first | (go_at_call 13; refine (HL.out _ (Below.refl _ _)).mono ?_; rintro e w1 ⟨rfl, b1⟩) | (go_at_call 14; refine (HA.out _ b1).mono ?_; rintro e w2 ⟨rfl, b2⟩) | fail)
    go_ret
    exact ⟨rfl, b1.trans (b2.mono b1.size)⟩
  by_cases hl0 : l.length = 0
  · have hq : ((l.length : Int) == 0) = true := by rw [hl0]; rfl
    clear hl0
    go_enter Tryd.func4, Tryd.ntmps4
    go_wp2_with (first | (go_at_call 13; refine (HL.out _ (Below.refl _ _)).mono ?_; rintro e w1 ⟨rfl, b1⟩) | (go_at_call 14; refine (HA.out _ b1).mono ?_; rintro e w2 ⟨rfl, b2⟩) | fail)
    go_ret
    exact ⟨rfl, b1.trans (b2.mono b1.size)⟩
  have hq : ((l.length : Int) == 0) = false := by rw [beq_eq_false_iff_ne]; omega
  by_cases hsz : 1000 < s.size
  · have hz : (1000 : Int) < s.size := by omega
    go_enter Tryd.func4, Tryd.ntmps4
    go_wp2_with (first | (go_at_call 13; refine (HL.out _ (Below.refl _ _)).mono ?_; rintro e w1 ⟨rfl, b1⟩) | (go_at_call 14; refine (HA.out _ b1).mono ?_; rintro e w2 ⟨rfl, b2⟩) | fail)
    go_ret
    exact ⟨rfl, b1.trans (b2.mono b1.size)⟩
  have hz : ¬ (1000 : Int) < s.size := by omega
  have hlp : 0 < l.length := by omega
  obtain ⟨b, rfl⟩ : ∃ b : Nat, by_ = b := ⟨by_.toNat, by omega⟩
  go_enter Tryd.func4, Tryd.ntmps4
  go_wp2_with (first | (go_at_call 13; refine (HL.out _ (Below.refl _ _)).mono ?_; rintro e w1 ⟨rfl, b1⟩) | fail)
  go_loopw [34, 11] (fun i v wr => ∃ k : Nat, k ≤ l.length ∧ i = .int .i64 k ∧ Own 36 2 FlR wr w.heap.size v ((turn l b).take k) ∧ Below w.heap.size w wr) (fun i _ _ => l.length - (intOf i).toNat)
  case atStart => exact ⟨0, by omega, rfl, by rw [List.take_zero]; exact Own.nil _ _ _ _ _, b1⟩
  case round =>
    obtain ⟨k, hk, rfl, hown, hB⟩ := hrel
    have HO := Lib.hid hown
    obtain ⟨A', cap', rfl⟩ := hown.len
    have hB1 := hB.size
    have htl : ((turn l b).take k).length = k := by rw [List.length_take, turn_len]; omega
    by_cases hlt : k < l.length
    · have hr : (k + b) % l.length < l.length := Nat.mod_lt _ hlp
      obtain ⟨p, hgx⟩ : ∃ x, l[(k + b) % l.length]? = some x := ⟨_, List.getElem?_eq_getElem hr⟩
      have htk : (turn l b).take (k + 1) = (turn l b).take k ++ [p] := by rw [List.take_add_one, turn_at hlt, hgx]; rfl
      obtain ⟨g, o, f, rfl, hf⟩ := elem_cells (HH.out wr hB) HR.out (rowsF_at hgx)
      obtain ⟨c0, r0⟩ := hf 0 _ rfl
      obtain ⟨c1, r1⟩ := hf 1 _ rfl
      cases e0 : f 0 <;> rw [e0] at r0 <;> cases r0
      cases e1 : f 1 <;> rw [e1] at r1 <;> cases r1
      rw [e0] at c0
      rw [e1] at c1
      have hmod : ((k : Int) + (b : Int)).tmod l.length = (((k + b) % l.length : Nat) : Int) := by rw [show (k : Int) + (b : Int) = ((k + b : Nat) : Int) by omega]; exact (Int.ofNat_tmod _ _).symm
      have hl63 : (k : Int) + b ≤ 9223372036854775807 := by omega
      rw [Nat.add_zero] at c0
      generalize (k + b) % l.length = r at hr hmod c0 c1
      clear hown hf hgx
      go_wp2_with (at_builtin; go_must (refine wpList_append1 37 48 32 36 (.agg #[.string ⟨#[]⟩, .string ⟨#[]⟩]) 2 32 w.heap.size _ ((turn l b).take k) p wr.heap.size #[.string p.1, .string p.2] Tryd.underlying32 info_file rfl (by decide) rfl (HO.out.alloc _) rfl (Blk.new _ _ _ (by simp)) rfl rfl (by simp [Value.oneCell']) (by unfold maxLen; omega) (by omega) (by simp; omega) ?_); intro v' w' hown' hgr')
      go_wp2
      go_roundw
      case rel => exact ⟨k + 1, by omega, by go_num, by rw [htk]; exact hown', below_own (hB.alloc (by omega) _) (HO.out.alloc _) hgr' (by simp; omega)⟩
      case measure => simp [intOf]; omega
    · have hk' : k = l.length := by omega
      subst hk'
      have hown : Own 36 2 FlR wr w.heap.size (.slice A' ((turn l b).take l.length).length cap') (turn l b) := by
        have := HO.out
        rwa [List.take_of_length_le (by rw [turn_len]; omega)] at this ⊢
      rw [htl] at hown ⊢
      clear HO
      have hsmall : l.length ≤ 32 → ∀ p ∈ l, p.1.size ≤ 1000000 ∧ p.2.size ≤ 1000000 := fun h32 => light_small h32 H1.out (of_decide_eq_true H0.out)
      have hP1 : ∀ w', Below w.heap.size w w' → Calls Tryd.prog 15 #[.slice A l.length c] w' fun e w2 => e = .returned (.tuple #[.string (packP nameC 22 emitM l).1, .int .i64 (packP nameC 22 emitM l).2]) ∧ Below w'.heap.size w' w2 := fun w' hb => ac_str_int (vs := [.slice A l.length c]) (pack_a l hl hsmall) (HH.out w' hb) (relOne HR.out) (HG.out w' hb)
      have hP2 : ∀ w', Below w.heap.size w w' → Below wr.heap.size wr w' → Calls Tryd.prog 15 #[.slice A' l.length cap'] w' fun e w2 => e = .returned (.tuple #[.string (packP nameC 22 emitM (turn l b)).1, .int .i64 (packP nameC 22 emitM (turn l b)).2]) ∧ Below w'.heap.size w' w2 := fun w' hb hb2 => by
        have hrel := rel_of_sl ((hown.below hb2 (Nat.le_refl _)).sl) (fun p => [.str p.1, .str p.2]) flR_rel
        refine ac_str_int (vs := [.slice A' l.length cap']) (pack_a (turn l b) (by rw [turn_len]; exact hl) fun h32 p hp => ?_) (holds_all w') (relOne hrel) (HG.out w' hb)
        exact hsmall (by rw [turn_len] at h32; exact h32) p ((turn_perm l b).mem_iff.1 hp)
      obtain ⟨q1, q2⟩ := packP_perm (nameB := nameC) (eN := 22) (by decide) emitM (turn_perm l b)
      generalize packP nameC 22 emitM l = pl at hP1 q1 q2
      generalize packP nameC 22 emitM (turn l b) = pt at hP2 q1 q2
      obtain ⟨a, e1⟩ := pl
      obtain ⟨a', e2⟩ := pt
      dsimp only at q1 q2 hP1 hP2
      subst q1
      have HP1 := Lib.hid hP1
      have HP2 := Lib.hid hP2
      clear hP1 hP2 hsmall hown HL HR
      have he : (e2 == 0) = (e1 == 0) := by rw [Bool.eq_iff_iff, beq_iff_eq, beq_iff_eq]; exact q2
      generalize hx : (e1 == 0) = x at he
      clear q2
      by_cases hs0 : s.size = 0
      · have hz0 : ((s.size : Int) == 0) = true := by rw [hs0]; rfl
        clear hs0
        cases x
        all_goals go_wp2_with fail
        all_goals refine (HP1.out _ hB).mono ?_
        all_goals rintro e w2 ⟨rfl, b2⟩
        all_goals have bb2 := hB.trans (b2.mono hB1)
        all_goals go_wp2_with fail
        all_goals refine (HP2.out _ bb2 b2).mono ?_
        all_goals rintro e w3 ⟨rfl, b3⟩
        all_goals have bb3 := bb2.trans (b3.mono bb2.size)
        all_goals go_wp2_with fail
        all_goals refine (HA.out _ bb3).mono ?_
        all_goals rintro e w4 ⟨rfl, b4⟩
        all_goals go_wp2
        all_goals go_ret
        all_goals exact ⟨rfl, bb3.trans (b4.mono bb3.size)⟩
      have hz0 : ((s.size : Int) == 0) = false := by rw [beq_eq_false_iff_ne]; omega
      have hzp : 0 < s.size := by omega
      have hzs : s.size ≤ 1000 := by omega
      obtain ⟨i, hi⟩ : ∃ i : Nat, at_ = i := ⟨at_.toNat, by omega⟩
      subst hi
      have him : i % s.size < s.size := Nat.mod_lt _ hzp
      have hmod : (i : Int).tmod s.size = ((i % s.size : Nat) : Int) := (Int.ofNat_tmod _ _).symm
      generalize i % s.size = r at him hmod
      cases x
      all_goals go_wp2_with fail
      all_goals refine (HP1.out _ hB).mono ?_
      all_goals rintro e w2 ⟨rfl, b2⟩
      all_goals have bb2 := hB.trans (b2.mono hB1)
      all_goals go_wp2_with fail
      all_goals refine (HP2.out _ bb2 b2).mono ?_
      all_goals rintro e w3 ⟨rfl, b3⟩
      all_goals have bb3 := bb2.trans (b3.mono bb2.size)
      all_goals obtain ⟨cap, w5, hcv, b5, n5, c5, f5⟩ := conv_bytes s w3
      all_goals have hc5 := c5 r him
      all_goals have hf5 := f5 r him
      all_goals have bb5 := bb3.trans (b5.mono bb3.size)
      all_goals go_wp2_with fail
      all_goals obtain ⟨dd, hdd, hde⟩ := xor_turn s[r] (k := (bit % 8).toNat) (by omega)
      all_goals rw [hde]
      all_goals have bb6 : Below w.heap.size w (w5.setCell ⟨w3.heap.size, r, none⟩ (.int .u8 dd.toNat)) := bb5.setCell (p := ⟨w3.heap.size, r, none⟩) bb3.size _
      all_goals have n6 : (w5.setCell ⟨w3.heap.size, r, none⟩ (.int .u8 dd.toNat)).heap.size = w5.heap.size := by simp [World.setCell]
      all_goals refine (HA.out _ bb6).mono ?_
      all_goals rintro e w7 ⟨rfl, b7⟩
      all_goals have bb7 := bb6.trans (b7.mono bb6.size)
      all_goals have hts : (s.data.toList.set r dd).length = s.size := by rw [List.length_set]; rfl
      all_goals have hcb := conv_back (cap := cap) hts (turned_cells him c5 n5 b7 n6)
      all_goals have hne := turned_ne him hdd
      all_goals have hz7 : (ByteArray.mk (s.data.toList.set r dd).toArray).size = s.size := List.size_toArray.trans hts
      all_goals have hS1 := ac_int (vs := [.string ⟨(s.data.toList.set r dd).toArray⟩]) (sum_a ⟨(s.data.toList.set r dd).toArray⟩ (by omega)) (HH.out w7 bb7) (relOne (.str _)) (HG.out w7 bb7)
      all_goals rw [hz7] at hS1
      all_goals have HS1 := Lib.hid hS1
      all_goals have HS2 := Lib.hid (fun w' (hb : Below w.heap.size w w') => ac_int (vs := [.string s]) (sum_a s hs) (HH.out w' hb) (relOne (.str _)) (HG.out w' hb))
      all_goals clear hS1 hdd hde
      all_goals go_wp2_with fail
      all_goals refine HS1.out.mono ?_
      all_goals rintro e w8 ⟨rfl, b8⟩
      all_goals have bb8 := bb7.trans (b8.mono bb7.size)
      all_goals go_wp2_with fail
      all_goals refine (HS2.out _ bb8).mono ?_
      all_goals rintro e w9 ⟨rfl, b9⟩
      all_goals have bb9 := bb8.trans (b9.mono bb8.size)
      all_goals go_wp2
      all_goals go_ret
      all_goals have hne3 : (sumI ⟨(s.data.toList.set r dd).toArray⟩ s.size != sumI s s.size) = true := by rw [bne, hne]; rfl
      all_goals exact ⟨congrArg (fun b => Ending.returned (.bool b)) hne3, bb9⟩
end Go.Proofs.YtpcddcfpbohogaaDoor
