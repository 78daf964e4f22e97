/-
  Proved: ReportWords returns true for every input of bulk at most 1048576 (the second form), with the listed package variables tied to the program's text. Without further conditions.
-/
import Derived.Test.YtamecdecpmklmaaDoorCards
import Derived.Test.YtamecdecpmklmaaDoorTie
import Derived.Test.YtamecdecpmklmaaDoorGw
import Derived.Test.YtamecdecpmklmaaDoorSlR
import Derived.Test.YtamecdecpmklmaaDoorRwA
import Derived.OpenShut
import Derived.Deep.DeepHandedRow
namespace Go.Proofs.YtamecdecpmklmaaDoor
set_option linter.unusedSimpArgs false
set_option linter.unusedVariables false
open Go.ChangeShapes Go.WideShapes Go.ChangeAt Go.RowKit Go.Deep

theorem own : ownKnob Tryd.prog.godebug = none := by kernel_rfl
theorem laidOut : laidOutB Tryd.prog = true := by kernel_rfl
theorem cellsS : Tryd.prog.cellsOf 9 = 1 := by kernel_rfl
theorem RelPs.three {σ : Sg} {a b c : Value} {x y z : AV} (h1 : RelP σ a x) (h2 : RelP σ b y) (h3 : RelP σ c z) : RelPs σ [a, b, c] [x, y, z] := by
  refine ⟨rfl, fun j v w hv hu => ?_⟩
  rcases j with _ | _ | _ | j <;> simp at hv hu
  · subst hv hu; exact h1
  · subst hv hu; exact h2
  · subst hv hu; exact h3
/-- the bulk of a list of texts -/
theorem bulk_strs {H : Type} : ∀ (l : List ByteArray) (ds : List (DataW H)), ds.length = l.length → (∀ (i : Nat) d (a : ByteArray), ds[i]? = some d → l[i]? = some a → d = .lit (.string a.data.toList)) → Rows.uptoBulkAll ds = sumW l
  | [], [], _, _ => by simp [Rows.uptoBulkAll, sumW]
  | [], d :: ds, h, _ => by simp at h
  | a :: l, [], h, _ => by simp at h
  | a :: l, d :: ds, h, hS => by
    have h0 := hS 0 d a rfl rfl
    subst h0
    rw [Rows.uptoBulkAll, sumW, bulk_strs l ds (by simpa using h) (fun i d a hd ha => hS (i + 1) d a (by simpa using hd) (by simpa using ha))]
    simp [Rows.uptoBulk]
theorem strs_of_trod {H : Type} {enc : TypeId × Value → H} {w : World} {base : Nat} {spare : Nat → Bool} {held : Bool} {v : Value} {fuel : Nat} {x : DataW H × List MemPlace} (h : DataW.trod enc Tryd.prog w base spare held fuel 22 [v] = some x) :
    ∃ l : List ByteArray, Rel1 (σW w) v (.lst .any 1 (rowsW l)) ∧ sumW l ≤ Rows.uptoBulk x.1 := by
  obtain ⟨l, hl, hb⟩ := sl_of_trodS (R := fun cs (s : ByteArray) => cs = [.string s]) (S := fun d s => d = .lit (.string s.data.toList)) Tryd.underlying22 cellsS (by decide) h (fun n cs y _ hy => by
    obtain ⟨s, h1, h2, _⟩ := DataW.trod_string Tryd.underlying9 hy
    exact ⟨s, h1, by rw [h2]⟩)
  refine ⟨l, rel_of_sl hl (fun s => [.str s]) (fun cs s hcs => by subst hcs; exact .cons (.str _) .nil), ?_⟩
  rcases hb with ⟨_, rfl⟩ | ⟨elems, sp, e, hlen, hS⟩
  · simp [sumW]
  · rw [e, Rows.uptoBulk, bulk_strs l elems hlen hS]
    omega

def setG (h : Array Obj) (g : Nat) (l : List Value) : Array Obj := h.modify g fun
  | .cells _ t frozen => .cells l.toArray t frozen
  | o => o
noncomputable def laidWorld (os : Os) : World :=
  { World.holding Tryd.prog os ⟨#[], #[], []⟩ with heap := setG (setG (setG (setG (setG (setG (World.holding Tryd.prog os ⟨#[], #[], []⟩).heap 0 gl_0) 1 gl_1) 2 gl_2) 3 gl_3) 5 gl_5) 6 gl_6 }
theorem laid_met (os : Os) : laidMet Tryd.prog Rows.reportWordsUptoRow.laid ((laidWorld os).forCall (fun _ _ => 0) ⟨#[], #[.slice none 0 0, .int .i64 0, .int .i64 0], []⟩).memory :=
  laidMet_of_run' 8 (by kernel_rfl) (by kernel_rfl)
theorem reads (os : Os) {H : Type} (enc : TypeId × Value → H) : ∃ places, DataW.whole enc Tryd.prog ((laidWorld os).forCall (fun _ _ => 0) ⟨#[], #[.slice none 0 0, .int .i64 0, .int .i64 0], []⟩).memory Tryd.f3.params.toList Rows.reportWordsSpec.vars false #[Value.slice none 0 0, .int .i64 0, .int .i64 0].toList 8 = some ([.nil, .lit (.int .i64 0), .lit (.int .i64 0)], [], places) :=
  ⟨[], by kernel_rfl⟩

set_option maxRecDepth 100000 in
theorem liftedUpto (os : Os) (started : os.Started) (H : Type) (enc : TypeId × Value → H) (F : Stop.Interp) :
    ReturnsInHanded {} Tryd.checked os 3 .any ((Rows.OpenSpec.upto Rows.reportWordsSpec).preRow enc Tryd.prog Tryd.f3 Rows.reportWordsUptoRow.domain false Rows.reportWordsUptoRow.laid) (((Rows.OpenSpec.upto Rows.reportWordsSpec).at F).post enc Tryd.prog Tryd.f3 false true false false) := by
  obtain ⟨places, hx⟩ := reads os enc
  refine returnsInHanded_of_row (C := Tryd.checked) (s := Rows.OpenSpec.upto Rows.reportWordsSpec) own started (by kernel_rfl) Tryd.func3
    (witness_row_at (enc := enc) (C := Tryd.checked) false (laidWorld os) #[.slice none 0 0, .int .i64 0, .int .i64 0] rfl (by kernel_rfl) (by kernel_rfl) (by kernel_rfl)
      (OpenSpec.preRow_of_cond 8 hx (by kernel_rfl) (fun k hk => by cases hk; kernel_rfl) (by kernel_rfl) (laid_met os))) ?_
  intro W base args ds gs before hval0 hW _ hcond _ hL _ _
  have hval : ∀ (j : Nat) t v, Tryd.f3.params[j]? = some t → args[j]? = some v → Value.okWide Tryd.prog W .any base t v := hval0
  have hW' := hW
  obtain ⟨p, q, hA0, hV, rfl, hfz, hnd⟩ := hW
  have hA : DataW.TrodAll enc Tryd.prog W 0 (fun _ => true) true Tryd.f3.params.toList args.toList ds p := hA0
  rw [Tryd.params3] at hA hval
  clear hA0 hval0
  obtain ⟨v0, vs0, d0, ds0, p0, q0, e0, rfl, rfl, h0, k0⟩ := trodAll_cons hA
  obtain ⟨v1, vs1, d1, ds1, p1, q1, rfl, rfl, rfl, h1, k1⟩ := trodAll_cons k0
  obtain ⟨v2, vs2, d2, ds2, p2, q2, rfl, rfl, rfl, h2, k2⟩ := trodAll_cons k1
  obtain ⟨rfl, rfl, rfl⟩ := trodAll_nil k2
  have e0' : args = #[v0, v1, v2] := by cases args; simp_all
  subst e0'
  obtain ⟨rfl, rfl⟩ := trodVars_none hV
  obtain ⟨e, rfl, rfl, rfl, we⟩ := open_int Tryd.underlying3 (hval 1 3 v1 rfl rfl) h1
  obtain ⟨f, rfl, rfl, rfl, wf⟩ := open_int Tryd.underlying3 (hval 2 3 v2 rfl rfl) h2
  obtain ⟨a0, len, cap, rfl⟩ := okWide_slice Tryd.underlying22 (hval 0 22 v0 rfl rfl)
  obtain ⟨fuel, hf⟩ := h0
  obtain ⟨l, hl, hs⟩ := strs_of_trod (v := .slice a0 len cap) (fuel := fuel) (by simpa [Value.cells] using hf)
  have hk : decide (Rows.uptoBulkAll ([d0, .lit (.int .i64 e), .lit (.int .i64 f)] ++ ([] : List (DataW H))) ≤ 1048576) = true := hcond _ rfl
  have hk2 := of_decide_eq_true hk
  have hs' : sumW l ≤ Rows.uptoBulk d0 := hs
  simp only [Rows.uptoBulkAll, List.cons_append] at hk2
  have hse : -9223372036854775808 ≤ e ∧ e ≤ 9223372036854775807 := by simpa [Lit.wf, IntKind.min, IntKind.max, IntKind.signed, IntKind.bits] using we
  have hsf : -9223372036854775808 ≤ f ∧ f ≤ 9223372036854775807 := by simpa [Lit.wf, IntKind.min, IntKind.max, IntKind.signed, IntKind.bits] using wf
  refine ((reportWords_a l e f (by omega) hse.2 hsf.2 hse.1 hsf.1).run (σW W) W [.slice a0 len cap, .int .i64 e, .int .i64 f] (holds_all W) (RelPs.three hl (.int _ _) (.int _ _)) (gw_of_laid hL)).mono fun e' W' ⟨σ', u, he, _, _, hb, hr⟩ => ?_
  subst he
  have hu : u = .bool true := by cases (show Rel1 σ' u (.bool true) from hr); rfl
  subst hu
  exact ⟨_, rfl, law_post laidOut (by kernel_rfl) (by kernel_rfl) Tryd.underlying4 rfl hW' rfl hb⟩

theorem saidUpto : Rows.ReportWordsUptoSaid :=
  OpenClaim.holds_of_cond 3 Tryd.f3 rfl rfl rfl rfl rfl rfl rfl ⟨rfl, rfl, rfl, rfl, rfl⟩ rfl rfl rfl rfl rfl (by kernel_rfl) Tryd.func3 (by kernel_rfl)
    (of_decide_eq_true (by kernel_rfl)) (by unfold Func.isWrapper; first | (rw [if_pos (by decide +kernel)]; kernel_rfl) | (rw [if_neg (by decide +kernel)]; exact ⟨rfl, rfl⟩))
    (fun os started H enc _ F => by rw [OpenClaim.pre_eq_preRow]; exact liftedUpto os started H enc F)

/-- No parameter wants a stand-in; the program's own looks are off. -/
theorem plain (f : FuncId) (fn : Func) (hf : Tryd.pinned.checked.prog.funcNamed "mizzen/mizzenlaw23.ReportWords" = some f) (hfn : Tryd.pinned.checked.prog.funcs[f]? = some fn) :
    true = Tryd.pinned.checked.prog.looks [] ∧ ∀ (j : Nat) t, fn.params[j]? = some t → Tryd.pinned.checked.prog.wantsStandIn t = false := by
  obtain rfl : f = 3 := Option.some.inj ((show Tryd.prog.funcNamed "mizzen/mizzenlaw23.ReportWords" = some 3 by kernel_rfl).symm.trans hf) |>.symm
  obtain rfl : fn = Tryd.f3 := (Option.some.inj (Tryd.func3.symm.trans hfn)).symm
  refine ⟨by kernel_rfl, fun j t ht => ?_⟩
  rw [Tryd.params3] at ht
  have ht' := Array.mem_of_getElem? ht
  simp at ht'
  rcases ht' with rfl | rfl
  · exact (show Tryd.prog.wantsStandIn 22 = false by kernel_rfl)
  · exact (show Tryd.prog.wantsStandIn 3 = false by kernel_rfl)

theorem reportWordsUpto_card : Rows.ReportWordsUptoCardSaid :=
  Claim7.holds_tied_plain_at .later [] _ _ _ _ saidUpto (fun _ h => by cases h) (by kernel_rfl) (fun _ h => by cases h) reportWordsUpto_row_tie rfl ⟨rfl, rfl⟩ (by kernel_rfl) rfl plain (by kernel_rfl)
#print axioms reportWordsUpto_card
end Go.Proofs.YtamecdecpmklmaaDoor
