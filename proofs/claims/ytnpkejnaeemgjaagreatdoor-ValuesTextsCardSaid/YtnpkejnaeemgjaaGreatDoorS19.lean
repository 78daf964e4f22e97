/-
  The texts that the claim wants, one behind the other: part 19.
-/
import Derived.Test.YtnpkejnaeemgjaaGreatDoorS18
import Derived.Lib.Strings
import Derived.BigQuiet
import Derived.Lib.ParseIntBTie
set_option linter.unusedSimpArgs false
set_option linter.unusedVariables false
namespace Go.Proofs.YtnpkejnaeemgjaaGreatDoor
open Go.RowKit
def hasB (s p : ByteArray) : Bool := decide (p.size ≤ s.size) && decide (s.extract 0 p.size = p)
theorem hasIn_a (s p : ByteArray) : AC Tryz.prog 69 [.str s, .str p] (.bool (hasB s p)) := by
 refine kE Tryz.func69 a_stringslite_HasPrefix_ok a_stringslite_HasPrefix_cb fun E hE => ?_
 refine kW ?_
 refine kP [] ?_ ?_
 ·((repeat' apply And.intro) <;> first | exact kD | (intro hgd; refine ⟨?_, kG⟩; (repeat' apply And.intro) <;> first | exact kD | skip) | skip)
  simpa [gd] using hgd
 refine kW ?_
 refine AK.ret ⟨_, rfl, ?_⟩
 refine congrArg AV.bool ?_
 rw [hasB]
 simp
theorem has_a (s p : ByteArray) : AC Tryz.prog 28 [.str s, .str p] (.bool (hasB s p)) := by
 have h := hasIn_a s p
 refine kE Tryz.func28 a_strings_HasPrefix_ok a_strings_HasPrefix_cb fun E hE => ?_
 refine kW ?_
 refine kQ [.v (.bool (hasB s p))] ?_
 refine kW ?_
 refine AK.ret ⟨_, rfl, ?_⟩
 rfl
def cutS (s p : ByteArray) : ByteArray := if hasB s p = true then s.extract p.size s.size else s
theorem trimIn_a (s p : ByteArray) : AC Tryz.prog 136 [.str s, .str p] (.str (cutS s p)) := by
 have h := hasIn_a s p
 refine kE Tryz.func136 a_stringslite_TrimPrefix_ok a_stringslite_TrimPrefix_cb fun E hE => ?_
 refine kW ?_
 refine kQ [.v (.bool (hasB s p))] ?_
 refine kC (fun hb => ?_) fun hb => ?_
 ·have hf : hasB s p = true := by simpa using hb
  have hle : p.size ≤ s.size := by
   simp only [hasB, Bool.and_eq_true, decide_eq_true_eq] at hf
   exact hf.1
  refine kW ?_
  refine kQ [] ?_
  refine kW ?_
  refine AK.ret ⟨_, rfl, ?_⟩
  rw [cutS, if_pos hf]
  rfl
 ·have hf : hasB s p = false := by simpa using hb
  refine kW ?_
  refine AK.ret ⟨_, rfl, ?_⟩
  rw [cutS, hf]
  rfl
theorem trim_a (s p : ByteArray) : AC Tryz.prog 102 [.str s, .str p] (.str (cutS s p)) := by
 have h := trimIn_a s p
 refine kE Tryz.func102 a_strings_TrimPrefix_ok a_strings_TrimPrefix_cb fun E hE => ?_
 refine kW ?_
 refine kQ [.v (.str (cutS s p))] ?_
 refine kW ?_
 refine AK.ret ⟨_, rfl, ?_⟩
 rfl
def okD (c : UInt8) : Bool := decide (48 ≤ c.toNat) && decide (c.toNat ≤ 57)
def numB (s : ByteArray) : Bool := allB okD (cutS s ⟨#[45]⟩) && decide (1 ≤ (cutS s ⟨#[45]⟩).size)
theorem cutS_size (s p : ByteArray) : (cutS s p).size ≤ s.size := by
 unfold cutS
 split
 ·rw [ByteArray.size_extract]; omega
 ·omega
theorem number_a (s : ByteArray) (hs : s.size ≤ 140737488355328) : AC Tryz.prog 132 [.str s] (.bool (numB s)) := by
 have h := trim_a s ⟨#[45]⟩
 have hz := cutS_size s ⟨#[45]⟩
 have hn : numB s = (allB okD (cutS s ⟨#[45]⟩) && decide (1 ≤ (cutS s ⟨#[45]⟩).size)) := rfl
 refine kE Tryz.func132 a_scalar_number_ok a_scalar_number_cb fun E hE => ?_
 refine kW ?_
 refine kQ [.v (.str (cutS s ⟨#[45]⟩))] ?_
 generalize cutS s ⟨#[45]⟩ = s at *
 refine kW ?_
 refine AK.loopI (fun k : Nat => (frOf [(0, .str s), (7, .int .i64 s.size), (8, .int .i64 k)], ⟨boxOf [], fun _ => 0⟩)) (fun k => k ≤ s.size ∧ allTo okD s k) (fun k => s.size - k) 0 ⟨by omega, allTo_zero _ _⟩ (Weak.intro ⟨kI, kI, kI, trivial⟩ trivial rfl rfl) fun k ⟨hk, hno⟩ => ?_
 refine kW ?_
 refine kC (fun hb => ?_) fun hb => ?_
 ·have hlt : k < s.size := by simpa using hb
  have hd := digit_a s[k].toNat
  refine kW ?_
  refine kP [.v (.bool (okD s[k]))] ?_ ?_
  ·((repeat' apply And.intro) <;> first | exact kD | (intro hgd; refine ⟨?_, kG⟩; (repeat' apply And.intro) <;> first | exact kD | skip) | skip)
   rw [show s.data.getD (k : Int).toNat 0 = s[k] from byte_at hlt]
   exact hd
  refine kC (fun hb => ?_) fun hb => ?_
  ·have hf : okD s[k] = false := by simpa using hb
   refine kW ?_
   refine AK.ret ⟨_, rfl, ?_⟩
   rw [hn, allB_false hlt hf]
   rfl
  ·have ht : okD s[k] = true := by simpa using hb
   refine kW ?_
   exact AK.lp ⟨k + 1, ⟨by omega, allTo_succ hno hlt ht⟩, Weak.intro ⟨kI, kI, kU, trivial⟩ trivial rfl rfl, by omega⟩
 ·have hlt : k = s.size := by have : s.size ≤ k := by simpa using hb
                              omega
  subst hlt
  refine AK.exit rfl ?_
  refine kW ?_
  refine AK.ret ⟨_, rfl, ?_⟩
  show AV.bool _ = AV.bool _
  refine congrArg AV.bool ?_
  rw [hn, allB_true hno, Bool.eq_iff_iff]
  by_cases hz : s = ByteArray.empty
  ·have h0 := (sz0 s).1 hz
   have hz' : s = ⟨#[]⟩ := hz
   simp [hz', ByteArray.size]
  ·have h1 : 1 ≤ s.size := by have := mt (sz0 s).2 hz; omega
   have hz' : ¬ s = ⟨#[]⟩ := hz
   simp [hz, h1]
   try first | exact hz' | exact ⟨fun h => by have := h.2; omega, fun h => ⟨hz', by omega⟩⟩
def dbl : List UInt8 → List UInt8 → Option (List UInt8 × List UInt8)
 | [], _ => none
 | c :: l, out => if c = 34 then some (out, l) else if c = 92 then (match l with
  | [] => none
  | d :: l => if d = 110 then dbl l (out ++ [10]) else if d = 116 then dbl l (out ++ [9]) else if d = 34 ∨ d = 92 then dbl l (out ++ [d]) else none)
  else if c = 10 ∨ c = 9 then none else dbl l (out ++ [c])
def sgl : List UInt8 → List UInt8 → Option (List UInt8 × List UInt8)
 | [], _ => none
 | c :: l, out => if c = 39 then (match l with
  | [] => some (out, [])
  | d :: l' => if d = 39 then sgl l' (out ++ [39]) else some (out, d :: l'))
  else sgl l (out ++ [c])
theorem dbl_cons (c : UInt8) (l out : List UInt8) : dbl (c :: l) out = if c = 34 then some (out, l) else if c = 92 then (match l with
  | [] => none
  | d :: l => if d = 110 then dbl l (out ++ [10]) else if d = 116 then dbl l (out ++ [9]) else if d = 34 ∨ d = 92 then dbl l (out ++ [d]) else none)
  else if c = 10 ∨ c = 9 then none else dbl l (out ++ [c]) := by
 cases l <;> simp only [dbl]
theorem sgl_cons (c : UInt8) (l out : List UInt8) : sgl (c :: l) out = if c = 39 then (match l with
  | [] => some (out, [])
  | d :: l' => if d = 39 then sgl l' (out ++ [39]) else some (out, d :: l'))
  else sgl l (out ++ [c]) := by
 cases l <;> simp only [sgl]
def qV : Option (List UInt8 × List UInt8) → Value
 | none => .tuple #[.string ⟨#[]⟩, .string ⟨#[]⟩, .int .i64 11]
 | some (a, b) => .tuple #[.string ⟨a.toArray⟩, .string ⟨b.toArray⟩, .int .i64 0]
def qA : Option (List UInt8 × List UInt8) → AV
 | none => .tup [.str ⟨#[]⟩, .str ⟨#[]⟩, .int .i64 11]
 | some (a, b) => .tup [.str ⟨a.toArray⟩, .str ⟨b.toArray⟩, .int .i64 0]
theorem byte_drop {s : ByteArray} {k : Nat} (h : k < s.size) : s.data.toList.drop k = s[k] :: s.data.toList.drop (k + 1) := by
 have h2 : k < s.data.toList.length := h
 rw [List.drop_eq_getElem_cons h2]
 rfl
theorem byte_drop_end (s : ByteArray) : s.data.toList.drop s.size = [] := by
 rw [List.drop_eq_nil_iff]; exact Nat.le_refl _
theorem ext_end (s : ByteArray) (k : Nat) : s.extract k s.size = ⟨(s.data.toList.drop k).toArray⟩ := by
 rw [Lib.extract_eq, List.take_of_length_le]
 rw [List.length_drop]
 exact Nat.le_refl _
theorem cells_snoc (l : List UInt8) (c : UInt8) : Lib.byteCells (l ++ [c]) = Lib.byteCells l ++ [.int .u8 c.toNat] := by simp [Lib.byteCells]
structure WdC (C : World → Prop) where
 w : World
 h : C w
theorem wp_region_quietC {P : Program} {id : Nat} {Q : Exit → Act → World → Prop} {a : Act} {w : World} {l : List Oper} (C : World → Prop) (hm : P.follows .mixedOrders = true) (hB : Region.lexB .any l.toArray = true) (hC : C { w with drawn := w.drawn + 1 })
  (h : wpQuiet P l.toArray (fun w' => ∃ p : WdC C, w' = p.w) (fun a' => ∀ w', (∃ p : WdC C, w' = p.w) → Q .normal a' w') l a) : (Code.region id l.toArray true).wp P Q a w :=
 wp_region_quiet (C := fun w' => ∃ p : WdC C, w' = p.w) hm hB ⟨⟨_, hC⟩, rfl⟩ (by simpa using h)
set_option maxRecDepth 100000 in
theorem double_any (s : ByteArray) (hs : s.size ≤ 1000000) (h1s : 1 ≤ s.size) (R : Option (List UInt8 × List UInt8)) (hR : dbl (s.data.toList.drop 1) [] = R) (w : World) : Calls Tryz.prog 129 #[.string s] w fun e w' => e = .returned (qV R) ∧ Below w.heap.size w w' := by
 have hR := Lib.hid hR
 go_enter Tryz.func129, Tryz.ntmps129
 go_wp2_with fail
 go_loopw [6] (fun i wr => ∃ (k : Nat) (out : List UInt8), k ≤ s.size ∧ out.length ≤ k ∧ i = .int .i64 k ∧ Lib.IsBuilder 194 5 w.heap.size w.heap.size (Lib.byteCells out) wr ∧ Below w.heap.size w wr ∧ Hid (dbl (s.data.toList.drop k) out = R)) (fun i _ => s.size - (intOf i).toNat)
 case atStart => exact ⟨1, [], by omega, by simp, rfl, Lib.fresh_isBuilder 194 5 w, (Below.refl _ _).alloc (Nat.le_refl _) _, hR⟩
 case round =>
  obtain ⟨k, out, hk, hol, rfl, hB, hW, hD⟩ := hrel
  have hbs : (Lib.byteCells out).length = out.length := List.length_map _
  have hBw : w.heap.size ≤ wr.heap.size := hW.size
  by_cases hlt : k < s.size
  ·have c256 : s[k].toNat < 256 := s[k].toNat_lt
   have hst := hD.out
   rw [byte_drop hlt, dbl_cons] at hst
   clear hD
   by_cases h34 : s[k] = 34
   ·have t1 : ((s[k].toNat : Int) == 34) = true := by rw [h34]; rfl
    rw [if_pos h34] at hst
    clear h34
    have hst := Lib.hid hst
    go_wp2_with fail
    obtain ⟨C, hCd⟩ : ∃ C : World → Prop, C = fun w' => Lib.IsBuilderF 194 5 w.heap.size w.heap.size (Lib.byteCells out) w' ∧ Below w.heap.size w w' := ⟨_, rfl⟩
    have hC0 : C { wr with drawn := wr.drawn + 1 } := by
     rw [hCd]
     exact ⟨Lib.IsBuilderF.of (hB.elim (fun h => .inl h.drew) (fun h => .inr h.drew)), hW.drew⟩
    have cW : ∀ w', C w' → Calls Tryz.prog 176 #[.pointer (some ⟨w.heap.size, 0, none⟩)] w' fun e w'' => e = .returned (.string ⟨out.toArray⟩) ∧ C w'' := fun w' h => by
     rw [hCd] at h ⊢
     refine (Tryz.Builder_String_any_f w.heap.size w.heap.size out w' h.1 h.2.size).mono ?_
     rintro e w'' ⟨rfl, h1, h2⟩
     exact ⟨rfl, h1, h.2.trans h2⟩
    have cX : ∀ p : WdC C, Calls Tryz.prog 176 #[.pointer (some ⟨w.heap.size, 0, none⟩)] p.w fun e w'' => e = .returned (.string ⟨out.toArray⟩) ∧ ∃ q : WdC C, w'' = q.w := fun p => (cW p.w p.h).mono fun e w'' h => ⟨h.1, ⟨w'', h.2⟩, rfl⟩
    haveI : Nonempty (WdC C) := ⟨⟨_, hC0⟩⟩
    have HC := Lib.hid hCd
    clear hCd
    refine wp_region_quietC C (by kernel_rfl) (by kernel_rfl) hC0 ?_
    repeat (go_big_quiet_step (first | exact cX _))
    refine wpQuiet_nil ?_
    rintro _ ⟨⟨w2, hw2⟩, rfl⟩
    clear cW cX
    rw [HC.out] at hw2
    clear HC
    go_wp2
    go_ret3
    exact ⟨by rw [← hst.out, qV, ← ext_end]; rfl, hw2.2⟩
   have t1 : ((s[k].toNat : Int) == 34) = false := by rw [beq_eq_false_iff_ne]; exact fun e => h34 (UInt8.toNat_inj.1 (show s[k].toNat = 34 by omega))
   rw [if_neg h34] at hst
   clear h34
   by_cases h92 : s[k] = 92
   ·have t2 : ((s[k].toNat : Int) == 92) = true := by rw [h92]; rfl
    rw [if_pos h92] at hst
    clear h92
    by_cases he : k + 1 = s.size
    ·rw [he, byte_drop_end] at hst
     have he' : ((k : Int) + 1 == s.size) = true := beq_iff_eq.2 (by omega)
     have hst := Lib.hid hst
     go_wp2_with fail
     go_ret3
     exact ⟨by rw [← hst.out]; rfl, hW⟩
    ·have he' : ((k : Int) + 1 == s.size) = false := beq_eq_false_iff_ne.2 (by omega)
     have hlt2 : k + 1 < s.size := by omega
     rw [byte_drop hlt2] at hst
     have d256 : s[k + 1].toNat < 256 := s[k + 1].toNat_lt
     by_cases d110 : s[k + 1] = 110
     ·have u1 : ((s[k + 1].toNat : Int) == 110) = true := by rw [d110]; rfl
      dsimp only at hst
      rw [if_pos d110] at hst
      clear d110
      have hst := Lib.hid hst
      go_wp2_with fail
      refine (Tryz.writeByte_h w.heap.size w.heap.size _ 10 wr hB (by omega) hBw).mono ?_
      rintro e w2 ⟨rfl, h2, b2⟩
      go_wp2
      go_roundw
      case rel => exact ⟨k + 2, out ++ [10], by omega, by rw [List.length_append, List.length_singleton]; omega, by go_num, .inr (by rw [cells_snoc]; exact h2), hW.trans b2, hst⟩
      case measure => simp [intOf]; omega
     have u1 : ((s[k + 1].toNat : Int) == 110) = false := by rw [beq_eq_false_iff_ne]; exact fun e => d110 (UInt8.toNat_inj.1 (show s[k + 1].toNat = 110 by omega))
     dsimp only at hst
     rw [if_neg d110] at hst
     clear d110
     by_cases d116 : s[k + 1] = 116
     ·have u2 : ((s[k + 1].toNat : Int) == 116) = true := by rw [d116]; rfl
      rw [if_pos d116] at hst
      clear d116
      have hst := Lib.hid hst
      go_wp2_with fail
      refine (Tryz.writeByte_h w.heap.size w.heap.size _ 9 wr hB (by omega) hBw).mono ?_
      rintro e w2 ⟨rfl, h2, b2⟩
      go_wp2
      go_roundw
      case rel => exact ⟨k + 2, out ++ [9], by omega, by rw [List.length_append, List.length_singleton]; omega, by go_num, .inr (by rw [cells_snoc]; exact h2), hW.trans b2, hst⟩
      case measure => simp [intOf]; omega
     have u2 : ((s[k + 1].toNat : Int) == 116) = false := by rw [beq_eq_false_iff_ne]; exact fun e => d116 (UInt8.toNat_inj.1 (show s[k + 1].toNat = 116 by omega))
     rw [if_neg d116] at hst
     clear d116
     by_cases d34 : s[k + 1] = 34
     ·have u3 : ((s[k + 1].toNat : Int) == 34) = true := by rw [d34]; rfl
      rw [if_pos (.inl d34)] at hst
      clear d34
      have hst := Lib.hid hst
      go_wp2_with fail
      refine (Tryz.writeByte_h w.heap.size w.heap.size _ s[k + 1].toNat wr hB (by omega) hBw).mono ?_
      rintro e w2 ⟨rfl, h2, b2⟩
      go_wp2
      go_roundw
      case rel => exact ⟨k + 2, out ++ [s[k + 1]], by omega, by rw [List.length_append, List.length_singleton]; omega, by go_num, .inr (by rw [cells_snoc]; exact h2), hW.trans b2, hst⟩
      case measure => simp [intOf]; omega
     have u3 : ((s[k + 1].toNat : Int) == 34) = false := by rw [beq_eq_false_iff_ne]; exact fun e => d34 (UInt8.toNat_inj.1 (show s[k + 1].toNat = 34 by omega))
     by_cases d92 : s[k + 1] = 92
     ·have u4 : ((s[k + 1].toNat : Int) == 92) = true := by rw [d92]; rfl
      rw [if_pos (.inr d92)] at hst
      clear d92 d34
      have hst := Lib.hid hst
      go_wp2_with fail
      refine (Tryz.writeByte_h w.heap.size w.heap.size _ s[k + 1].toNat wr hB (by omega) hBw).mono ?_
      rintro e w2 ⟨rfl, h2, b2⟩
      go_wp2
      go_roundw
      case rel => exact ⟨k + 2, out ++ [s[k + 1]], by omega, by rw [List.length_append, List.length_singleton]; omega, by go_num, .inr (by rw [cells_snoc]; exact h2), hW.trans b2, hst⟩
      case measure => simp [intOf]; omega
     have u4 : ((s[k + 1].toNat : Int) == 92) = false := by rw [beq_eq_false_iff_ne]; exact fun e => d92 (UInt8.toNat_inj.1 (show s[k + 1].toNat = 92 by omega))
     rw [if_neg (fun e => e.elim d34 d92)] at hst
     clear d34 d92
     have hst := Lib.hid hst
     go_wp2_with fail
     go_ret3
     exact ⟨by rw [← hst.out]; rfl, hW⟩
   have t2 : ((s[k].toNat : Int) == 92) = false := by rw [beq_eq_false_iff_ne]; exact fun e => h92 (UInt8.toNat_inj.1 (show s[k].toNat = 92 by omega))
   rw [if_neg h92] at hst
   clear h92
   by_cases h10 : s[k] = 10
   ·have t3 : ((s[k].toNat : Int) == 10) = true := by rw [h10]; rfl
    rw [if_pos (.inl h10)] at hst
    clear h10
    have hst := Lib.hid hst
    go_wp2_with fail
    go_ret3
    exact ⟨by rw [← hst.out]; rfl, hW⟩
   have t3 : ((s[k].toNat : Int) == 10) = false := by rw [beq_eq_false_iff_ne]; exact fun e => h10 (UInt8.toNat_inj.1 (show s[k].toNat = 10 by omega))
   by_cases h9 : s[k] = 9
   ·have t4 : ((s[k].toNat : Int) == 9) = true := by rw [h9]; rfl
    rw [if_pos (.inr h9)] at hst
    clear h10 h9
    have hst := Lib.hid hst
    go_wp2_with fail
    go_ret3
    exact ⟨by rw [← hst.out]; rfl, hW⟩
   have t4 : ((s[k].toNat : Int) == 9) = false := by rw [beq_eq_false_iff_ne]; exact fun e => h9 (UInt8.toNat_inj.1 (show s[k].toNat = 9 by omega))
   rw [if_neg (fun e => e.elim h10 h9)] at hst
   clear h10 h9
   have hst := Lib.hid hst
   go_wp2_with fail
   refine (Tryz.writeByte_h w.heap.size w.heap.size _ s[k].toNat wr hB (by omega) hBw).mono ?_
   rintro e w2 ⟨rfl, h2, b2⟩
   go_wp2
   go_roundw
   case rel => exact ⟨k + 1, out ++ [s[k]], by omega, by rw [List.length_append, List.length_singleton]; omega, by go_num, .inr (by rw [cells_snoc]; exact h2), hW.trans b2, hst⟩
   case measure => simp [intOf]; omega
  ·have he : k = s.size := by omega
   have hst := hD.out
   rw [he, byte_drop_end] at hst
   clear hD
   subst he
   have hst := Lib.hid hst
   go_wp2_with fail
   go_ret3
   exact ⟨by rw [← hst.out]; rfl, hW⟩
set_option maxRecDepth 100000 in
theorem single_any (s : ByteArray) (hs : s.size ≤ 1000000) (h1s : 1 ≤ s.size) (R : Option (List UInt8 × List UInt8)) (hR : sgl (s.data.toList.drop 1) [] = R) (w : World) : Calls Tryz.prog 130 #[.string s] w fun e w' => e = .returned (qV R) ∧ Below w.heap.size w w' := by
 have hR := Lib.hid hR
 go_enter Tryz.func130, Tryz.ntmps130
 go_wp2_with fail
 go_loopw [6] (fun i wr => ∃ (k : Nat) (out : List UInt8), k ≤ s.size ∧ out.length ≤ k ∧ i = .int .i64 k ∧ Lib.IsBuilder 194 5 w.heap.size w.heap.size (Lib.byteCells out) wr ∧ Below w.heap.size w wr ∧ Hid (sgl (s.data.toList.drop k) out = R)) (fun i _ => s.size - (intOf i).toNat)
 case atStart => exact ⟨1, [], by omega, by simp, rfl, Lib.fresh_isBuilder 194 5 w, (Below.refl _ _).alloc (Nat.le_refl _) _, hR⟩
 case round =>
  obtain ⟨k, out, hk, hol, rfl, hB, hW, hD⟩ := hrel
  have hbs : (Lib.byteCells out).length = out.length := List.length_map _
  have hBw : w.heap.size ≤ wr.heap.size := hW.size
  by_cases hlt : k < s.size
  ·have c256 : s[k].toNat < 256 := s[k].toNat_lt
   have hst := hD.out
   rw [byte_drop hlt, sgl_cons] at hst
   clear hD
   by_cases h39 : s[k] = 39
   ·have t1 : ((s[k].toNat : Int) != 39) = false := by rw [h39]; rfl
    have t1' : ((s[k].toNat : Int) == 39) = true := by rw [h39]; rfl
    rw [if_pos h39] at hst
    clear h39
    by_cases he : k + 1 = s.size
    ·rw [he, byte_drop_end] at hst
     have he' : ((k : Int) + 1 == s.size) = true := beq_iff_eq.2 (by omega)
     have hst := Lib.hid hst
     go_wp2_with fail
     obtain ⟨C, hCd⟩ : ∃ C : World → Prop, C = fun w' => Lib.IsBuilderF 194 5 w.heap.size w.heap.size (Lib.byteCells out) w' ∧ Below w.heap.size w w' := ⟨_, rfl⟩
     have hC0 : C { wr with drawn := wr.drawn + 1 } := by
      rw [hCd]
      exact ⟨Lib.IsBuilderF.of (hB.elim (fun h => .inl h.drew) (fun h => .inr h.drew)), hW.drew⟩
     have cW : ∀ w', C w' → Calls Tryz.prog 176 #[.pointer (some ⟨w.heap.size, 0, none⟩)] w' fun e w'' => e = .returned (.string ⟨out.toArray⟩) ∧ C w'' := fun w' h => by
      rw [hCd] at h ⊢
      refine (Tryz.Builder_String_any_f w.heap.size w.heap.size out w' h.1 h.2.size).mono ?_
      rintro e w'' ⟨rfl, h1, h2⟩
      exact ⟨rfl, h1, h.2.trans h2⟩
     have cX : ∀ p : WdC C, Calls Tryz.prog 176 #[.pointer (some ⟨w.heap.size, 0, none⟩)] p.w fun e w'' => e = .returned (.string ⟨out.toArray⟩) ∧ ∃ q : WdC C, w'' = q.w := fun p => (cW p.w p.h).mono fun e w'' h => ⟨h.1, ⟨w'', h.2⟩, rfl⟩
     haveI : Nonempty (WdC C) := ⟨⟨_, hC0⟩⟩
     have HC := Lib.hid hCd
     clear hCd
     refine wp_region_quietC C (by kernel_rfl) (by kernel_rfl) hC0 ?_
     repeat (go_big_quiet_step (first | exact cX _))
     refine wpQuiet_nil ?_
     rintro _ ⟨⟨w2, hw2⟩, rfl⟩
     clear cW cX
     rw [HC.out] at hw2
     clear HC
     go_wp2
     go_ret3
     exact ⟨by rw [← hst.out, qV]; rfl, hw2.2⟩
    ·have he' : ((k : Int) + 1 == s.size) = false := beq_eq_false_iff_ne.2 (by omega)
     have hlt2 : k + 1 < s.size := by omega
     rw [byte_drop hlt2] at hst
     dsimp only at hst
     by_cases d39 : s[k + 1] = 39
     ·have u1 : ((s[k + 1].toNat : Int) != 39) = false := by rw [d39]; rfl
      rw [if_pos d39] at hst
      clear d39
      have hst := Lib.hid hst
      go_wp2_with fail
      refine (Tryz.writeByte_h w.heap.size w.heap.size _ 39 wr hB (by omega) hBw).mono ?_
      rintro e w2 ⟨rfl, h2, b2⟩
      go_wp2
      go_roundw
      case rel => exact ⟨k + 2, out ++ [39], by omega, by rw [List.length_append, List.length_singleton]; omega, by go_num, .inr (by rw [cells_snoc]; exact h2), hW.trans b2, hst⟩
      case measure => simp [intOf]; omega
     ·have u1 : ((s[k + 1].toNat : Int) != 39) = true := by rw [bne_iff_ne]; exact fun e => d39 (UInt8.toNat_inj.1 (show s[k + 1].toNat = 39 by omega))
      rw [if_neg d39] at hst
      clear d39
      have hst := Lib.hid hst
      go_wp2_with fail
      obtain ⟨C, hCd⟩ : ∃ C : World → Prop, C = fun w' => Lib.IsBuilderF 194 5 w.heap.size w.heap.size (Lib.byteCells out) w' ∧ Below w.heap.size w w' := ⟨_, rfl⟩
      have hC0 : C { wr with drawn := wr.drawn + 1 } := by
       rw [hCd]
       exact ⟨Lib.IsBuilderF.of (hB.elim (fun h => .inl h.drew) (fun h => .inr h.drew)), hW.drew⟩
      have cW : ∀ w', C w' → Calls Tryz.prog 176 #[.pointer (some ⟨w.heap.size, 0, none⟩)] w' fun e w'' => e = .returned (.string ⟨out.toArray⟩) ∧ C w'' := fun w' h => by
       rw [hCd] at h ⊢
       refine (Tryz.Builder_String_any_f w.heap.size w.heap.size out w' h.1 h.2.size).mono ?_
       rintro e w'' ⟨rfl, h1, h2⟩
       exact ⟨rfl, h1, h.2.trans h2⟩
      have cX : ∀ p : WdC C, Calls Tryz.prog 176 #[.pointer (some ⟨w.heap.size, 0, none⟩)] p.w fun e w'' => e = .returned (.string ⟨out.toArray⟩) ∧ ∃ q : WdC C, w'' = q.w := fun p => (cW p.w p.h).mono fun e w'' h => ⟨h.1, ⟨w'', h.2⟩, rfl⟩
      haveI : Nonempty (WdC C) := ⟨⟨_, hC0⟩⟩
      have HC := Lib.hid hCd
      clear hCd
      refine wp_region_quietC C (by kernel_rfl) (by kernel_rfl) hC0 ?_
      repeat (go_big_quiet_step (first | exact cX _))
      refine wpQuiet_nil ?_
      rintro _ ⟨⟨w2, hw2⟩, rfl⟩
      clear cW cX
      rw [HC.out] at hw2
      clear HC
      go_wp2
      go_ret3
      exact ⟨by rw [← hst.out, qV, ← byte_drop hlt2, ← ext_end]; rfl, hw2.2⟩
   have t1 : ((s[k].toNat : Int) != 39) = true := by rw [bne_iff_ne]; exact fun e => h39 (UInt8.toNat_inj.1 (show s[k].toNat = 39 by omega))
   rw [if_neg h39] at hst
   clear h39
   have hst := Lib.hid hst
   go_wp2_with fail
   refine (Tryz.writeByte_h w.heap.size w.heap.size _ s[k].toNat wr hB (by omega) hBw).mono ?_
   rintro e w2 ⟨rfl, h2, b2⟩
   go_wp2
   go_roundw
   case rel => exact ⟨k + 1, out ++ [s[k]], by omega, by rw [List.length_append, List.length_singleton]; omega, by go_num, .inr (by rw [cells_snoc]; exact h2), hW.trans b2, hst⟩
   case measure => simp [intOf]; omega
  ·have he : k = s.size := by omega
   have hst := hD.out
   rw [he, byte_drop_end] at hst
   clear hD
   subst he
   have hst := Lib.hid hst
   go_wp2_with fail
   go_ret3
   exact ⟨by rw [← hst.out]; rfl, hW⟩
theorem qV_rel (σ : Sg) (R : Option (List UInt8 × List UInt8)) : RelR σ (qV R) (qA R) := by
 have key : ∀ (a b : ByteArray) (n : Int), RelR σ (.tuple #[.string a, .string b, .int .i64 n]) (.tup [.str a, .str b, .int .i64 n]) := fun a b n => by
  refine ⟨[.string a, .string b, .int .i64 n], rfl, rfl, fun j v a hv ha => ?_⟩
  rcases j with _ | _ | _ | j <;> simp at hv ha
  ·subst hv ha; exact .str _
  ·subst hv ha; exact .str _
  ·subst hv ha; exact .int _ _
 cases R with
 | none => exact key _ _ _
 | some p => exact key _ _ _
theorem double_a (s : ByteArray) (hs : s.size ≤ 1000000) (h1s : 1 ≤ s.size) : AC Tryz.prog 129 [.str s] (qA (dbl (s.data.toList.drop 1) [])) := by
 refine ⟨a_scalar_double_cb, fun σ w vs hh hr hg => ?_⟩
 obtain ⟨v1, rfl⟩ := List.length_eq_one_iff.1 hr.1
 have h1 : Rel1 σ v1 (.str s) := hr.2 0 v1 _ rfl rfl
 cases h1
 refine (double_any s hs h1s _ rfl w).mono ?_
 rintro e w' ⟨rfl, hb⟩
 exact ⟨σ, _, rfl, Ext.refl _ _, fun b q v hv => (hb.cell (p := ⟨b, q, none⟩) (World.block_lt_of_cell? w _ (hh _ _ _ hv))).trans (hh _ _ _ hv), hb, qV_rel _ _⟩
theorem single_a (s : ByteArray) (hs : s.size ≤ 1000000) (h1s : 1 ≤ s.size) : AC Tryz.prog 130 [.str s] (qA (sgl (s.data.toList.drop 1) [])) := by
 refine ⟨a_scalar_single_cb, fun σ w vs hh hr hg => ?_⟩
 obtain ⟨v1, rfl⟩ := List.length_eq_one_iff.1 hr.1
 have h1 : Rel1 σ v1 (.str s) := hr.2 0 v1 _ rfl rfl
 cases h1
 refine (single_any s hs h1s _ rfl w).mono ?_
 rintro e w' ⟨rfl, hb⟩
 exact ⟨σ, _, rfl, Ext.refl _ _, fun b q v hv => (hb.cell (p := ⟨b, q, none⟩) (World.block_lt_of_cell? w _ (hh _ _ _ hv))).trans (hh _ _ _ hv), hb, qV_rel _ _⟩
def unq (s : ByteArray) : Option (List UInt8 × List UInt8) := match s.data.toList with
 | [] => none
 | c :: l => if c = 34 then dbl l [] else if c = 39 then sgl l [] else none
theorem unquote_a (s : ByteArray) (hs : s.size ≤ 1000000) : AC Tryz.prog 94 [.str s] (qA (unq s)) := by
 refine kE Tryz.func94 a_scalar_Unquote_ok a_scalar_Unquote_cb fun E hE => ?_
 refine kW ?_
 refine kC (fun hb => ?_) fun hb => ?_
 ·have hz : s = ⟨#[]⟩ := by simpa using hb
  subst hz
  refine kW ?_
  refine AK.ret ⟨_, rfl, ?_⟩
  rfl
 ·have hz : ¬ s = ByteArray.empty := of_decide_eq_false hb
  have h1 : 1 ≤ s.size := by have := mt (sz0 s).2 hz; omega
  have hu : unq s = if s[0] = 34 then dbl (s.data.toList.drop 1) [] else if s[0] = 39 then sgl (s.data.toList.drop 1) [] else none := by
   have hl := byte_drop (s := s) (k := 0) h1
   rw [List.drop_zero] at hl
   unfold unq
   cases hL : s.data.toList with
   | nil => rw [hL] at hl; cases hl
   | cons c l =>
    rw [hL] at hl
    injection hl with h2 h3
    rw [show s[0] = c from h2.symm]
    rfl
  have hd := double_a s hs h1
  have hg := single_a s hs h1
  refine kW ?_
  refine kQ [] ?_
  rw [show s.data.getD (0 : Int).toNat 0 = s[0] from byte_at h1]
  refine kW ?_
  refine kC (fun hb => ?_) fun hb => ?_
  ·have e : s[0] = 34 := UInt8.toNat_inj.1 (by have : ((s[0].toNat : Nat) : Int) = 34 := by simpa using hb
                                               show s[0].toNat = 34; omega)
   rw [if_pos e] at hu
   rw [hu]
   generalize dbl (s.data.toList.drop 1) [] = R at *
   cases R with
   | none =>
    refine kW ?_
    refine kQ [.v (qA none)] ?_
    refine kW ?_
    refine AK.ret ⟨_, rfl, ?_⟩
    rfl
   | some p =>
    refine kW ?_
    refine kQ [.v (qA (some p))] ?_
    refine kW ?_
    refine AK.ret ⟨_, rfl, ?_⟩
    rfl
  ·have e : ¬ s[0] = 34 := fun e => by rw [e] at hb; cases hb
   rw [if_neg e] at hu
   refine kW ?_
   refine kC (fun hb => ?_) fun hb => ?_
   ·have e2 : s[0] = 39 := UInt8.toNat_inj.1 (by have : ((s[0].toNat : Nat) : Int) = 39 := by simpa using hb
                                                 show s[0].toNat = 39; omega)
    rw [if_pos e2] at hu
    rw [hu]
    generalize sgl (s.data.toList.drop 1) [] = R at *
    cases R with
    | none =>
     refine kW ?_
     refine kQ [.v (qA none)] ?_
     refine kW ?_
     refine AK.ret ⟨_, rfl, ?_⟩
     rfl
    | some p =>
     refine kW ?_
     refine kQ [.v (qA (some p))] ?_
     refine kW ?_
     refine AK.ret ⟨_, rfl, ?_⟩
     rfl
   ·have e2 : ¬ s[0] = 39 := fun e => by rw [e] at hb; cases hb
    rw [if_neg e2] at hu
    rw [hu]
    refine kW ?_
    refine AK.ret ⟨_, rfl, ?_⟩
    rfl
theorem index1_a (s : ByteArray) (c : UInt8) : AC Tryz.prog 126 [.str s, .str ⟨#[c]⟩] (.int .i64 (Lib.indexByte s.data.toList c)) := by
 refine ⟨by kernel_rfl, fun σ w vs hh hr hg => ?_⟩
 obtain ⟨v1, v2, rfl, h1, h2⟩ := two_args hr
 have h1 : Rel1 σ v1 (.str s) := h1
 have h2 : Rel1 σ v2 (.str ⟨#[c]⟩) := h2
 cases h1; cases h2
 refine (Tryz.stringslite_Index_one s c w).mono ?_
 rintro e w' ⟨rfl, rfl⟩
 exact ⟨σ, _, rfl, Ext.refl _ _, hh, Below.refl _ _, .int _ _⟩
def cutB (s : ByteArray) (c : UInt8) : ByteArray × ByteArray × Bool :=
 if Lib.indexByte s.data.toList c = -1 then (s, ⟨#[]⟩, false) else (s.extract 0 (Lib.indexByte s.data.toList c).toNat, s.extract ((Lib.indexByte s.data.toList c).toNat + 1) s.size, true)
theorem cutIn_a (s : ByteArray) (c : UInt8) (hs : s.size ≤ 140737488355328) : AC Tryz.prog 89 [.str s, .str ⟨#[c]⟩] (.tup [.str (cutB s c).1, .str (cutB s c).2.1, .bool (cutB s c).2.2]) := by
 have h := index1_a s c
 have hz1 : (ByteArray.mk #[c]).size = 1 := rfl
 rcases ix_cases s.data.toList c with ⟨h1, _⟩ | ⟨i, h1, h2, _, _⟩
 ·have hc : cutB s c = (s, ⟨#[]⟩, false) := by rw [cutB, if_pos h1]
  rw [h1] at h
  rw [hc]
  refine kE Tryz.func89 a_stringslite_Cut_ok a_stringslite_Cut_cb fun E hE => ?_
  refine kW ?_
  refine kQ [.v (.int .i64 (-1))] ?_
  refine kW ?_
  refine kC (fun hb => ?_) fun hb => ?_
  ·simp at hb
  ·refine kW ?_
   refine AK.ret ⟨_, rfl, ?_⟩
   rfl
 ·have h2' : i < s.size := h2
  have hc : cutB s c = (s.extract 0 i, s.extract (i + 1) s.size, true) := by rw [cutB, if_neg (by omega), h1]; rfl
  rw [h1] at h
  rw [hc]
  have hw : IntKind.i64.wrap ((i : Int) + 1) = (i : Int) + 1 := wrap_in (by omega) (by omega)
  refine kE Tryz.func89 a_stringslite_Cut_ok a_stringslite_Cut_cb fun E hE => ?_
  refine kW ?_
  refine kQ [.v (.int .i64 i)] ?_
  refine kW ?_
  refine kC (fun hb => ?_) fun hb => ?_
  ·refine kW ?_
   refine kP [] ?_ ?_
   ·((repeat' apply And.intro) <;> first | exact kD | (intro hgd; refine ⟨?_, kG⟩; (repeat' apply And.intro) <;> first | exact kD | skip) | skip)
    all_goals first | omega | (rw [hz1]; show (IntKind.i64.wrap ((i : Int) + 1)) ≤ _; rw [hw]; omega) | (rw [hz1]; show 0 ≤ (IntKind.i64.wrap ((i : Int) + 1)); rw [hw]; omega) | skip
   refine kW ?_
   refine AK.ret ⟨_, rfl, ?_⟩
   have e : s.extract (IntKind.i64.wrap ((i : Int) + ((ByteArray.mk #[c]).size : Nat))).toNat (s.size : Int).toNat = s.extract (i + 1) s.size := by
    rw [hz1]
    rw [show IntKind.i64.wrap ((i : Int) + ((1 : Nat) : Int)) = (i : Int) + 1 from hw]
    rfl
   rw [e]
   rfl
  ·simp at hb
theorem cut_a (s : ByteArray) (c : UInt8) (hs : s.size ≤ 140737488355328) : AC Tryz.prog 53 [.str s, .str ⟨#[c]⟩] (.tup [.str (cutB s c).1, .str (cutB s c).2.1, .bool (cutB s c).2.2]) := by
 have h := cutIn_a s c hs
 refine kE Tryz.func53 a_strings_Cut_ok a_strings_Cut_cb fun E hE => ?_
 refine kW ?_
 refine kQ [.v (.tup [.str (cutB s c).1, .str (cutB s c).2.1, .bool (cutB s c).2.2])] ?_
 refine kW ?_
 refine AK.ret ⟨_, rfl, ?_⟩
 rfl
end Go.Proofs.YtnpkejnaeemgjaaGreatDoor
/-
 A word's value: scalar.Parse walked (as in KEY v).
-/
namespace Go.Proofs.YtnpkejnaeemgjaaGreatDoor
open Go.RowKit
def V.bool (b : Bool) : V := .mk 1 b 0 ⟨#[]⟩ [] []
def wNull : ByteArray := ⟨#[110, 117, 108, 108]⟩
def wTrue : ByteArray := ⟨#[116, 114, 117, 101]⟩
def wFalse : ByteArray := ⟨#[102, 97, 108, 115, 101]⟩
def scalP (s : ByteArray) : V × Int :=
 if s = ⟨#[]⟩ ∨ s = ⟨#[126]⟩ ∨ s = wNull then (V.null, 0)
 else if s = wTrue ∨ s = wFalse then (V.bool (decide (s = wTrue)), 0)
 else if numB s = false then (V.str s, 0)
 else match Lib.atoiAll s.data.toList with
  | .ok v => (V.int v, 0)
  | _ => (V.null, 9)
theorem treeBool_a (b : Bool) : AC Tryz.prog 131 [.bool b] ((vA ((V.bool b)))) := by
 refine kE Tryz.func131 a_tree_Bool_ok a_tree_Bool_cb fun E hE => ?_
 refine kW ?_
 refine AK.ret ⟨_, rfl, ?_⟩
 rfl
theorem treeNull_a : AC Tryz.prog 80 [] ((vA (V.null))) := by
 refine kE Tryz.func80 a_tree_Null_ok a_tree_Null_cb fun E hE => ?_
 refine kW ?_
 refine AK.ret ⟨_, rfl, ?_⟩
 rfl
theorem parseInt_a (s : ByteArray) (v : Int) (hz : s.size ≤ 1000000) (h : Lib.atoiAll s.data.toList = .ok v) : AC Tryz.prog 133 [.str s, .int .i64 10, .int .i64 64] (.tup [.int .i64 v, .raw .nilIface]) := by
 refine ⟨by kernel_rfl, fun σ w vs hh hr hg => ?_⟩
 have hl : vs.length = 3 := hr.1
 obtain ⟨v1, v2, v3, rfl⟩ : ∃ a b c, vs = [a, b, c] := by
  rcases vs with _ | ⟨a, _ | ⟨b, _ | ⟨c, _ | ⟨d, l⟩⟩⟩⟩ <;> simp at hl
  exact ⟨a, b, c, rfl⟩
 have h1 : Rel1 σ v1 (.str s) := hr.2 0 v1 _ rfl rfl
 have h2 : Rel1 σ v2 (.int .i64 10) := hr.2 1 v2 _ rfl rfl
 have h3 : Rel1 σ v3 (.int .i64 64) := hr.2 2 v3 _ rfl rfl
 cases h1; cases h2; cases h3
 refine (Tryz.strconv_ParseInt_10_at64_ok s (by omega) v (by rw [Lib.parseIntB_64]; exact h) w).mono ?_
 rintro e w' ⟨rfl, hw⟩
 have hb : Below w.heap.size w w' := by
  rcases hw with rfl | ⟨t, rfl⟩
  ·exact Below.refl _ _
  ·exact Lib.bytesWorld_below _ _ _
 refine ⟨σ, _, rfl, Ext.refl _ _, fun b q v hv => (hb.cell (p := ⟨b, q, none⟩) (World.block_lt_of_cell? w _ (hh _ _ _ hv))).trans (hh _ _ _ hv), hb, ⟨[.int .i64 v, .nilIface], rfl, rfl, fun j v a hv ha => ?_⟩⟩
 rcases j with _ | _ | j <;> simp at hv ha
 ·subst hv ha; exact .int _ _
 ·subst hv ha; exact .raw _ rfl
theorem parseErr_any (s : ByteArray) (hz : s.size ≤ 1000000) (h : ∀ v, Lib.atoiAll s.data.toList ≠ .ok v) : ∃ n : Int, ∀ w : World, GW w → Calls Tryz.prog 133 #[.string s, .int .i64 10, .int .i64 64] w fun e w' => ∃ t p, e = .returned (.tuple #[.int .i64 n, .iface t (.pointer (some p))]) ∧ Below w.heap.size w w' := by
 cases hA : Lib.atoiAll s.data.toList with
 | ok v => exact absurd hA (h v)
 | range =>
  refine ⟨Lib.intSat 64 s.data.toList, fun w hg => ?_⟩
  obtain ⟨ev, h1, h2⟩ := hg.ifc_cell (g := gi_ErrRange) (by simp [globI])
  refine (Tryz.strconv_ParseInt_10_at64_range s (by omega) (by rw [Lib.parseIntB_64]; exact hA) ev w h1 h2).mono ?_
  rintro e w' ⟨N, rfl, _, _, hb⟩
  exact ⟨_, _, rfl, hb⟩
 | _ =>
  refine ⟨0, fun w hg => ?_⟩
  obtain ⟨ev, h1, h2⟩ := hg.ifc_cell (g := gi_ErrSyntax) (by simp [globI])
  refine (Tryz.strconv_ParseInt_10_at64_syntax s (by omega) (by rw [Lib.parseIntB_64]; exact hA) ev w h1 h2).mono ?_
  rintro e w' ⟨N, rfl, _, _, hb⟩
  exact ⟨_, _, rfl, hb⟩
theorem scalOk_a (s : ByteArray) (hz : s.size ≤ 1000000) (hok : (¬ (s = ⟨#[]⟩ ∨ s = ⟨#[126]⟩ ∨ s = wNull) → ¬ (s = wTrue ∨ s = wFalse) → numB s = true → ∃ v, Lib.atoiAll s.data.toList = .ok v)) : AC Tryz.prog 96 [.str s] (.tup [(vA ((scalP s).1)), .int .i64 (scalP s).2]) := by
 have hn := number_a s (by omega)
 have hs := treeStr_a s
 have h0 := treeNull_a
 refine kE Tryz.func96 a_scalar_Parse_ok a_scalar_Parse_cb fun E hE => ?_
 have fin0 : s = ⟨#[]⟩ ∨ s = ⟨#[126]⟩ ∨ s = wNull → scalP s = (V.null, 0) := fun h => by rw [scalP, if_pos h]
 refine kW ?_
 refine kC (fun hb => ?_) fun hb => ?_
 ·skip
  have h1 := fin0 (.inl (of_decide_eq_true hb))
  have hb0 := hb
  refine kW ?_
  refine kC (fun hb => ?_) fun hb => ?_
  ·refine kW ?_
   refine kQ [.v ((vA (V.null)))] ?_
   refine kW ?_
   refine AK.ret ⟨_, rfl, ?_⟩
   rw [h1]
   rfl
  ·rw [hb0] at hb
   cases hb
 have n1 := of_decide_eq_false hb
 refine kW ?_
 refine kC (fun hb => ?_) fun hb => ?_
 ·skip
  have h1 := fin0 (.inr (.inl (of_decide_eq_true hb)))
  have hb0 := hb
  refine kW ?_
  refine kC (fun hb => ?_) fun hb => ?_
  ·refine kW ?_
   refine kQ [.v ((vA (V.null)))] ?_
   refine kW ?_
   refine AK.ret ⟨_, rfl, ?_⟩
   rw [h1]
   rfl
  ·rw [hb0] at hb
   cases hb
 have n2 := of_decide_eq_false hb
 refine kW ?_
 refine kC (fun hb => ?_) fun hb => ?_
 ·have hb3 : s = wNull := of_decide_eq_true hb
  have h1 := fin0 (.inr (.inr hb3))
  refine kW ?_
  refine kQ [.v ((vA (V.null)))] ?_
  refine kW ?_
  refine AK.ret ⟨_, rfl, ?_⟩
  rw [h1]
  rfl
 have n3 : ¬ s = wNull := of_decide_eq_false hb
 have nn : ¬ (s = ⟨#[]⟩ ∨ s = ⟨#[126]⟩ ∨ s = wNull) := fun h => h.elim n1 fun h => h.elim n2 n3
 have fin1 : s = wTrue ∨ s = wFalse → scalP s = (V.bool (decide (s = wTrue)), 0) := fun h => by rw [scalP, if_neg nn, if_pos h]
 refine kW ?_
 refine kC (fun hb => ?_) fun hb => ?_
 ·skip
  have h1 := fin1 (.inl (of_decide_eq_true hb))
  have hb0 := hb
  have hB := treeBool_a (decide (s = wTrue))
  refine kW ?_
  refine kC (fun hb => ?_) fun hb => ?_
  ·refine kW ?_
   refine kQ [.v ((vA ((V.bool (decide (s = wTrue))))))] ?_
   refine kW ?_
   refine AK.ret ⟨_, rfl, ?_⟩
   rw [h1]
   rfl
  ·rw [hb0] at hb
   cases hb
 have n4 : ¬ s = wTrue := of_decide_eq_false hb
 refine kW ?_
 refine kC (fun hb => ?_) fun hb => ?_
 ·have h1 := fin1 (.inr (of_decide_eq_true hb))
  have hB := treeBool_a (decide (s = wTrue))
  refine kW ?_
  refine kQ [.v ((vA ((V.bool (decide (s = wTrue))))))] ?_
  refine kW ?_
  refine AK.ret ⟨_, rfl, ?_⟩
  rw [h1]
  rfl
 have n5 : ¬ s = wFalse := of_decide_eq_false hb
 have nb : ¬ (s = wTrue ∨ s = wFalse) := fun h => h.elim n4 n5
 refine kW ?_
 refine kQ [.v (.bool (numB s))] ?_
 refine kC (fun hb => ?_) fun hb => ?_
 ·have hN : numB s = false := by simpa using hb
  have h1 : scalP s = (V.str s, 0) := by rw [scalP, if_neg nn, if_neg nb, if_pos hN]
  refine kW ?_
  refine kQ [.v ((vA ((V.str s))))] ?_
  refine kW ?_
  refine AK.ret ⟨_, rfl, ?_⟩
  rw [h1]
  rfl
 ·have hN : numB s = true := by simpa using hb
  obtain ⟨v, hv⟩ := hok nn nb hN
  have h1 : scalP s = (V.int v, 0) := by rw [scalP, if_neg nn, if_neg nb, if_neg (by rw [hN]; decide), hv]
  have hP := parseInt_a s v hz hv
  have hI := treeInt_a v
  refine kW ?_
  refine kQ [.v (.tup [.int .i64 v, .raw .nilIface])] ?_
  refine kW ?_
  refine kP [] ?_ ?_
  ·((repeat' apply And.intro) <;> first | exact kD | (intro hgd; refine ⟨?_, kG⟩; (repeat' apply And.intro) <;> first | exact kD | skip) | skip)
   exact nilErr true
  refine kC (fun hb => ?_) fun hb => ?_
  ·cases hb
  refine kW ?_
  refine kQ [.v ((vA ((V.int v))))] ?_
  refine kW ?_
  refine AK.ret ⟨_, rfl, ?_⟩
  rw [h1]
  rfl
end Go.Proofs.YtnpkejnaeemgjaaGreatDoor
/-
 The value of a word that is a number too great, walked; the value of a word, at any.
-/
namespace Go.Proofs.YtnpkejnaeemgjaaGreatDoor
open Go.RowKit
theorem AC.bool_at {f : FuncId} {s : ByteArray} {b : Bool} (h : AC Tryz.prog f [.str s] (.bool b)) {w : World} (hg : GW w) : Calls Tryz.prog f #[.string s] w fun e w' => e = .returned (.bool b) ∧ Below w.heap.size w w' := by
 refine (h.run (fun _ _ => none) w [.string s] (fun _ _ _ h => by cases h) ⟨rfl, fun j v a hv ha => ?_⟩ hg).mono ?_
 ·rcases j with _ | j <;> simp at hv ha
  subst hv ha
  exact .str s
 ·rintro e w' ⟨σ', v, rfl, _, _, hb, hr⟩
  have hr : Rel1 σ' v (.bool b) := hr
  cases hr
  exact ⟨rfl, hb⟩
theorem ne_list {s t : ByteArray} (h : ¬ s = t) : (s.toList == t.data.toList) = false := by
 rw [beq_eq_false_iff_ne]
 intro e
 refine h (ByteArray.ext (Array.ext' ?_))
 rw [← Lib.toList_data s, e]
set_option maxHeartbeats 2000000 in
theorem scalErr_any (s : ByteArray) (hz : s.size ≤ 1000000) (nn : ¬ (s = ⟨#[]⟩ ∨ s = ⟨#[126]⟩ ∨ s = wNull)) (nb : ¬ (s = wTrue ∨ s = wFalse)) (hN : numB s = true) (n : Int) (hA : ∀ w : World, GW w → Calls Tryz.prog 133 #[.string s, .int .i64 10, .int .i64 64] w fun e w' => ∃ t p, e = .returned (.tuple #[.int .i64 n, .iface t (.pointer (some p))]) ∧ Below w.heap.size w w') (w : World) (hg : GW w) :
  Calls Tryz.prog 96 #[.string s] w fun e w' => e = .returned (.tuple #[.agg #[.int .i64 0, .bool false, .int .i64 0, .string ⟨#[]⟩, .slice none 0 0, .slice none 0 0], .int .i64 9]) ∧ Below w.heap.size w w' := by
 have h1 : (s.toList == []) = false := ne_list (t := ⟨#[]⟩) fun h => nn (.inl h)
 have h2 : (s.toList == [126]) = false := ne_list (t := ⟨#[126]⟩) fun h => nn (.inr (.inl h))
 have h3 : (s.toList == [110, 117, 108, 108]) = false := ne_list (t := wNull) fun h => nn (.inr (.inr h))
 have h4 : (s.toList == [116, 114, 117, 101]) = false := ne_list (t := wTrue) fun h => nb (.inl h)
 have h5 : (s.toList == [102, 97, 108, 115, 101]) = false := ne_list (t := wFalse) fun h => nb (.inr h)
 have hn := fun (w : World) (hg : GW w) => AC.bool_at (number_a s (by omega)) hg
 rw [hN] at hn
 clear nn nb hN
 go_enter Tryz.func96, Tryz.ntmps96
 go_wp2_with fail
 have hb0 : Below w.heap.size w (w.alloc (.cells #[.int .i64 0, .bool false, .int .i64 0, .string ⟨#[]⟩, .slice none 0 0, .slice none 0 0] 25)) := (Below.refl _ _).alloc (Nat.le_refl _) _
 have hk0 : Blk (w.alloc (.cells #[.int .i64 0, .bool false, .int .i64 0, .string ⟨#[]⟩, .slice none 0 0, .slice none 0 0] 25)) w.heap.size 25 #[.int .i64 0, .bool false, .int .i64 0, .string ⟨#[]⟩, .slice none 0 0, .slice none 0 0] := Blk.new _ _ _ rfl
 have hg0 := hg.below hb0
 refine (hn _ hg0).mono ?_
 rintro e w1 ⟨rfl, hb1⟩
 have hk1 := hk0.below hb1 (by simp)
 have hg1 := hg0.below hb1
 have hB1 : Below w.heap.size w w1 := hb0.trans (hb1.mono (by simp))
 clear hn hb0 hk0 hg0 hb1
 go_wp2_with fail
 refine (hA _ hg1).mono ?_
 rintro e w2 ⟨t, p, rfl, hb2⟩
 have hk2 := hk1.below hb2 hk1.lt
 have hB2 : Below w.heap.size w w2 := hB1.trans (hb2.mono hB1.size)
 have HK := Lib.hid hk2
 have HB := Lib.hid hB2
 have hz2 : w.heap.size < w2.heap.size := hk2.lt
 clear hA hb2 hk1 hg1 hB1 hk2 hB2
 have q1 : ∀ w : World, (binOp .neq 157 (.iface t (.pointer (some p))) .nilIface).run Tryz.prog w = .ok (.bool true) w := fun w => by simp [go_sem]
 go_wp2_with ((with_reducible refine wpList_store_row 2 30 25 (w.heap.size) 25 #[.int .i64 0, .bool false, .int .i64 0, .string ⟨#[]⟩, .slice none 0 0, .slice none 0 0] #[.int .i64 0, .bool false, .int .i64 0, .string ⟨#[]⟩, .slice none 0 0, .slice none 0 0] ?_ ?_ ?_ ?_ ?_ ?_ ?_); rfl; rfl; exact HK.out; rfl; exact (show ∀ u ∈ [Value.int .i64 0, .bool false, .int .i64 0, .string ⟨#[]⟩, .slice none 0 0, .slice none 0 0], u.oneCell' = true by simp [Value.oneCell']); kernel_rfl)
 refine bodyPost_ret (results_cell_tmp_row rfl _ _ _ _ _ _ rfl (HK.out.set _) Tryz.underlying25 rfl (by kernel_rfl)) rfl ⟨rfl, ?_⟩
 exact below_setRow HB.out (Nat.le_refl _) _
theorem zeroV_rel (σ : Sg) (e : Int) : RelR σ (.tuple #[.agg #[.int .i64 0, .bool false, .int .i64 0, .string ⟨#[]⟩, .slice none 0 0, .slice none 0 0], .int .i64 e]) (.tup [(vA (V.null)), .int .i64 e]) := by
 refine ⟨[.agg #[.int .i64 0, .bool false, .int .i64 0, .string ⟨#[]⟩, .slice none 0 0, .slice none 0 0], .int .i64 e], rfl, rfl, fun j v a hv ha => ?_⟩
 rcases j with _ | _ | j <;> simp at hv ha
 ·subst hv ha
  refine ⟨[.int .i64 0, .bool false, .int .i64 0, .string ⟨#[]⟩, .slice none 0 0, .slice none 0 0], rfl, ?_⟩
  have nl : ∀ esz, Rel1 σ (.slice none 0 0) (.lst .any esz []) := fun esz => .lst .any esz [] none 0 0 0 0 (fun _ _ => undef) rfl (by omega) (fun h => by omega) (fun i c h => by simp at h) (fun i j h => by omega) (fun i j c a h => by simp at h) trivial
  exact RelL.cons (.int _ _) (RelL.cons (.bool _) (RelL.cons (.int _ _) (RelL.cons (.str _) (RelL.cons (nl 6) (RelL.cons (nl 7) RelL.nil)))))
 ·subst hv ha; exact .int _ _
theorem scal_a (s : ByteArray) (hz : s.size ≤ 1000000) : AC Tryz.prog 96 [.str s] (.tup [(vA ((scalP s).1)), .int .i64 (scalP s).2]) := by
 by_cases hok : (¬ (s = ⟨#[]⟩ ∨ s = ⟨#[126]⟩ ∨ s = wNull) → ¬ (s = wTrue ∨ s = wFalse) → numB s = true → ∃ v, Lib.atoiAll s.data.toList = .ok v)
 ·exact scalOk_a s hz hok
 ·have nn : ¬ (s = ⟨#[]⟩ ∨ s = ⟨#[126]⟩ ∨ s = wNull) := fun h => hok fun n => absurd h n
  have nb : ¬ (s = wTrue ∨ s = wFalse) := fun h => hok fun _ n => absurd h n
  have hN : numB s = true := by
   cases h : numB s with
   | true => rfl
   | false => exact absurd (fun _ _ n => by rw [h] at n; cases n) hok
  have hbad : ∀ v, Lib.atoiAll s.data.toList ≠ .ok v := fun v hv => hok fun _ _ _ => ⟨v, hv⟩
  obtain ⟨n, hA⟩ := parseErr_any s hz hbad
  have hp : scalP s = (V.null, 9) := by
   rw [scalP, if_neg nn, if_neg nb, if_neg (by rw [hN]; decide)]
   cases h : Lib.atoiAll s.data.toList with
   | ok v => exact absurd h (hbad v)
   | range => rfl
   | _ => rfl
  rw [hp]
  refine ⟨by kernel_rfl, fun σ w vs hh hr hg => ?_⟩
  have hl : vs.length = 1 := hr.1
  obtain ⟨v1, rfl⟩ := List.length_eq_one_iff.1 hl
  have h1 : Rel1 σ v1 (.str s) := hr.2 0 v1 _ rfl rfl
  cases h1
  refine (scalErr_any s hz nn nb hN n hA w hg).mono ?_
  rintro e w' ⟨rfl, hb⟩
  exact ⟨σ, _, rfl, Ext.refl _ _, fun b q v hv => (hb.cell (p := ⟨b, q, none⟩) (World.block_lt_of_cell? w _ (hh _ _ _ hv))).trans (hh _ _ _ hv), hb, zeroV_rel σ 9⟩
end Go.Proofs.YtnpkejnaeemgjaaGreatDoor
