/-
  report.words, of texts and small numbers.
-/
import Derived.Test.YtamecdecpmklmaaDoorLaws
import Derived.Test.YtamecdecpmklmaaDoorChecked
import Derived.Test.YtamecdecpmklmaaDoorShl
import Derived.WalkLawsBesides
import Derived.WalkSpells
import Derived.Deep.QuietTactic
import Derived.BigQuiet
namespace Go.Proofs.YtamecdecpmklmaaDoor
set_option linter.unusedSimpArgs false
set_option linter.unusedVariables false
open Go.RowKit

/-- what is told: a text, a small number -/
inductive WA where
  | s (b : ByteArray)
  | n (i : Nat)
def waV : WA → Value
  | .s b => .iface 9 (.string b)
  | .n i => .iface 3 (.int .i64 i)
def waT : WA → ByteArray
  | .s b => b
  | .n i => ⟨(Lib.decDigits i).toArray⟩
def WAR (cs : List Value) (x : WA) : Prop := cs = [waV x]
def StrR (cs : List Value) (x : ByteArray) : Prop := cs = [.string x]
def waOk : WA → Prop
  | .s _ => True
  | .n i => i < 100
def waJoin (l : List WA) : ByteArray := ⟨(Lib.join ((l.map waT).map (·.data.toList)) [32]).toArray⟩
theorem info_str : (Tryd.prog.info? 9).map (fun i => (i.zero, i.size, i.bytes)) = some (some (.string ⟨#[]⟩), 1, 16) := by kernel_rfl
theorem own_cells {w : World} {base : Nat} {v : Value} {l : List ByteArray} (h : Own 9 1 StrR w base v l) (hne : 0 < l.length) : ∃ b cap, v = .slice (some ⟨b, 0, none⟩) l.length cap ∧ l.length ≤ cap ∧ b < w.heap.size ∧ ∀ (j : Nat) x, l[j]? = some x → w.cell? ⟨b, 0 + j, none⟩ = some (.string x) := by
  obtain ⟨xs, hx, hR⟩ := h
  obtain ⟨A, cap, hv, hc, hat⟩ := Sl.of_own (R := StrR) hx rfl (fun i x hi => hR i x hi)
  obtain ⟨b, o, hA, hb, cs, _, hcs, hcell⟩ := hat 0 l[0] (List.getElem?_eq_getElem hne)
  have ho : o = 0 := by
    obtain ⟨hlen, h2⟩ := hx
    rcases h2 with ⟨rfl, h0⟩ | ⟨g, cap', cur, rfl, hg, hh, hnc, hm, hs, ht⟩
    · omega
    · injection hv with e1
      rw [hA] at e1
      injection e1 with e1
      injection e1 with e1 e2
      exact e2.symm
  subst hA ho
  refine ⟨b, cap, hv, hc, hb, fun j x hj => ?_⟩
  obtain ⟨b', o', hA', _, cs', _, rfl, hcell'⟩ := hat j x hj
  injection hA' with hA'
  injection hA' with e1 e2
  subst e1 e2
  simpa using hcell' 0 _ rfl

theorem as_str (W : World) (v : Value) : (Instr.typeAssert (.iface 9 v) 20 9 true).run Tryd.prog W = .ok (.tuple #[v, .bool true]) W := by kernel_rfl
theorem as_int (W : World) (v : Value) : (Instr.typeAssert (.iface 3 v) 20 3 true).run Tryd.prog W = .ok (.tuple #[v, .bool true]) W := by kernel_rfl
theorem as_int_str (W : World) (v : Value) : (Instr.typeAssert (.iface 3 v) 20 9 true).run Tryd.prog W = .ok (.tuple #[.string ⟨#[]⟩, .bool false]) W := by kernel_rfl
set_option maxHeartbeats 2000000 in
theorem words_any (v : Value) (l : List WA) (w : World) (hs : Sl 1 WAR w w.heap.size v l) (hne : 0 < l.length) (hl : l.length ≤ 1000) (hok : ∀ x ∈ l, waOk x) (hj : (Lib.join ((l.map waT).map (·.data.toList)) [32]).length ≤ 140737488355328) :
    Calls Tryd.prog 14 #[v] w fun e w' => e = .returned (.string (waJoin l)) ∧ Below w.heap.size w w' := by
  obtain ⟨A, cap, rfl, hc, hs⟩ := hs
  go_enter Tryd.func14, Tryd.ntmps14
  go_wp2
  go_loopw [3, 12] (fun o i wr => ∃ (out : List ByteArray), out.length ≤ l.length ∧ i = .int .i64 out.length ∧ Own 9 1 StrR wr w.heap.size o out ∧ Hid (out = (l.take out.length).map waT) ∧ Below w.heap.size w wr) (fun _ i _ => l.length - (intOf i).toNat)
  case atStart => exact ⟨[], by simp, rfl, Own.nil _ _ _ _ _, Lib.hid rfl, Below.refl _ _⟩
  case round =>
    obtain ⟨out, hk, rfl, hown, ho, hB⟩ := hrel
    have HB := Lib.hid hB
    have HO := Lib.hid hown
    obtain ⟨A', cap', rfl⟩ := hown.len
    have hBk := hB.size
    by_cases hlt : out.length < l.length
    · obtain ⟨b, o, x, cs, rfl, hb, hg, _, rfl, hcell⟩ := (hs.below hB).at_ hlt
      have c0 := hcell 0 _ rfl
      simp only [Nat.mul_one, Nat.add_zero] at c0
      have HX := Lib.hid (hok x (List.mem_of_getElem? hg))
      have HT := Lib.hid (show out ++ [waT x] = (l.take (out ++ [waT x]).length).map waT by rw [List.length_append, List.length_singleton]; rw [List.take_add_one, hg, List.map_append, ← ho.out]; rfl)
      clear hs hB hown hcell hg
      cases x with
      | s y =>
        simp only [waV] at c0
        have as1 := as_str
        go_wp2_with (at_builtin; go_must (refine wpList_append1 (R := StrR) 20 22 22 9 (.string ⟨#[]⟩) 1 16 w.heap.size _ out y wr.heap.size #[.string y] Tryd.underlying22 info_str rfl (by decide) rfl (HO.out.alloc _) rfl (Blk.new _ _ _ rfl) rfl rfl (by intro u hu; simp at hu; subst hu; rfl) (by unfold maxLen; omega) (by omega) (by simp; omega) ?_); intro v' w' hown' hgr')
        go_wp2
        go_roundw
        case rel => exact ⟨out ++ [y], by simp; omega, by simp, hown', HT, below_own (HB.out.alloc (by omega) _) (HO.out.alloc _) hgr' (by simp; omega)⟩
        case measure => simp [intOf]; omega
      | n y =>
        simp only [waV] at c0
        have as1 := as_int
        have as2 := as_int_str
        have hy : y < 100 := HX.out
        go_wp2_with fail
        refine (Tryd.strconv_Itoa_small y hy _).mono ?_
        rintro e w1 ⟨rfl, rfl⟩
        go_wp2_with (at_builtin; go_must (refine wpList_append1 (R := StrR) 27 30 22 9 (.string ⟨#[]⟩) 1 16 w.heap.size _ out (waT (.n y)) w1.heap.size #[.string (waT (.n y))] Tryd.underlying22 info_str rfl (by decide) rfl (HO.out.alloc _) rfl (Blk.new _ _ _ rfl) rfl rfl (by intro u hu; simp at hu; subst hu; rfl) (by unfold maxLen; omega) (by omega) (by simp; omega) ?_); intro v' w' hown' hgr')
        go_wp2
        go_roundw
        case rel => exact ⟨out ++ [waT (.n y)], by simp; omega, by simp, hown', HT, below_own (HB.out.alloc (by omega) _) (HO.out.alloc _) hgr' (by simp; omega)⟩
        case measure => simp [intOf]; omega
    · have e1 : out.length = l.length := by omega
      have e2 : out = l.map waT := by rw [ho.out, e1, List.take_length]
      obtain ⟨b, cap2, hv, hc2, hb2, hcell2⟩ := own_cells hown (by omega)
      injection hv with e3 e4 e5
      subst e3 e5
      have e6 : (⟨#[32]⟩ : ByteArray).data.toList = [32] := rfl
      have hj' : (Lib.join (out.map (·.data.toList)) (⟨#[32]⟩ : ByteArray).data.toList).length ≤ 140737488355328 := by rw [e2, e6]; exact hj
      have HC := Lib.hid (Tryd.strings_Join b 0 cap' out ⟨#[32]⟩ wr hcell2 hb2 (by omega) hc2 hj')
      have H2 := Lib.hid e2
      clear hj hj' e6 e2 e1
      clear hown hcell2 hs hB
      go_wp2_with fail
      refine HC.out.mono ?_
      rintro e w1 ⟨rfl, hb3⟩
      go_wp2
      go_ret
      exact ⟨by rw [H2.out]; rfl, HB.out.trans (hb3.mono HB.out.size)⟩
end Go.Proofs.YtamecdecpmklmaaDoor
