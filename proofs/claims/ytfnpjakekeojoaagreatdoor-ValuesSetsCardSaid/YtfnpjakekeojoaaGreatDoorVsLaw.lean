/-
  Proved: ValuesSets returns true for every input, with the listed package variables tied to the program's text. Without further conditions.
-/
import Derived.Test.YtfnpjakekeojoaaGreatDoorCards
import Derived.Test.YtfnpjakekeojoaaGreatDoorTie
import Derived.Test.YtfnpjakekeojoaaGreatDoorGwS
import Derived.Test.YtfnpjakekeojoaaGreatDoorVas
import Derived.Test.YtfnpjakekeojoaaGreatDoorSs1
import Derived.OpenShut
import Derived.Deep.DeepHandedRow
namespace Go.Proofs.YtfnpjakekeojoaaGreatDoor
set_option linter.unusedSimpArgs false
set_option linter.unusedVariables false
open Go.ChangeShapes Go.WideShapes Go.ChangeAt Go.RowKit Go.Deep

abbrev obW : Value := .agg #[.int .i64 0, .bool false, .int .i64 0, .string ⟨#[]⟩, .slice none 0 0, .slice none 0 0]
abbrev obD {H : Type} : DataW H := .agg [.lit (.int .i64 0), .lit (.bool false), .lit (.int .i64 0), .lit (.string []), .nil, .nil]

theorem laid_met (os : Os) : laidMet Tryz.prog Rows.valuesSetsRow.laid ((laidWorld os).forCall (fun _ _ => 0) ⟨#[], #[obW, .string ⟨#[]⟩, .slice none 0 0, .string ⟨#[]⟩], []⟩).memory :=
  laidMet_of_run' 8 (by kernel_rfl) (by kernel_rfl)
theorem reads (os : Os) {H : Type} (enc : TypeId × Value → H) : ∃ places, DataW.whole enc Tryz.prog ((laidWorld os).forCall (fun _ _ => 0) ⟨#[], #[obW, .string ⟨#[]⟩, .slice none 0 0, .string ⟨#[]⟩], []⟩).memory Tryz.f3.params.toList Rows.valuesSetsSpec.vars false (#[obW, .string ⟨#[]⟩, .slice none 0 0, .string ⟨#[]⟩] : Array Value).toList 8 = some ([obD, .lit (.string []), .nil, .lit (.string [])], [], places) :=
  ⟨[], by kernel_rfl⟩
set_option maxRecDepth 100000 in
theorem lifted (os : Os) (started : os.Started) (H : Type) (enc : TypeId × Value → H) (F : Stop.Interp) :
    ReturnsInHanded {} Tryz.checked os 3 .any ((OpenSpec.ofChange Rows.valuesSetsSpec).preRow enc Tryz.prog Tryz.f3 Rows.valuesSetsRow.domain false Rows.valuesSetsRow.laid) (((OpenSpec.ofChange Rows.valuesSetsSpec).at F).post enc Tryz.prog Tryz.f3 false true false false) := by
  obtain ⟨places, hx⟩ := reads os enc
  refine returnsInHanded_of_row (C := Tryz.checked) (s := OpenSpec.ofChange Rows.valuesSetsSpec) own started (by kernel_rfl) Tryz.func3
    (witness_row_at (enc := enc) (C := Tryz.checked) false (laidWorld os) #[obW, .string ⟨#[]⟩, .slice none 0 0, .string ⟨#[]⟩] rfl (by kernel_rfl) (by kernel_rfl) (by kernel_rfl)
      (OpenSpec.preRow_of_cond 8 hx (by kernel_rfl) (fun k hk => by cases hk) (by kernel_rfl) (laid_met os))) ?_
  intro W base args ds gs before hval0 hW _ _ hsz0 hL _ _
  have hsz : (DataW.weightsEach Tryz.prog (Tryz.f3.params.toList ++ Rows.valuesSetsSpec.plain.varTypes Tryz.prog) (ds ++ gs)).all (· ≤ reachBytes) = true := hsz0
  have hval : ∀ (j : Nat) t v, Tryz.f3.params[j]? = some t → args[j]? = some v → Value.okWide Tryz.prog W .any base t v := hval0
  have hW' := hW
  obtain ⟨p, q, hA0, hV, rfl, hfz, hnd⟩ := hW
  have hA : DataW.TrodAll enc Tryz.prog W 0 (fun _ => true) true Tryz.f3.params.toList args.toList ds p := hA0
  rw [Tryz.params3] at hA hval hsz
  clear hA0 hval0
  obtain ⟨v0, vs0, d0, ds0, p0, q0, e0, rfl, rfl, h0, k0⟩ := trodAll_cons hA
  obtain ⟨v1, vs1, d1, ds1, p1, q1, rfl, rfl, rfl, h1, k1⟩ := trodAll_cons k0
  obtain ⟨v2, vs2, d2, ds2, p2, q2, rfl, rfl, rfl, h2, k2⟩ := trodAll_cons k1
  obtain ⟨v3, vs3, d3, ds3, p3, q3, rfl, rfl, rfl, h3, k3⟩ := trodAll_cons k2
  obtain ⟨rfl, rfl, rfl⟩ := trodAll_nil k3
  have e0' : args = #[v0, v1, v2, v3] := by cases args; simp_all
  subst e0'
  obtain ⟨rfl, rfl⟩ := trodVars_none hV
  obtain ⟨v, r0, s0⟩ := val_arg (okWide_structR Tryz.underlying25 (hval 0 25 v0 rfl rfl)) h0 (wt_arg hsz (j := 0) rfl rfl)
  obtain ⟨s, rfl, zs, _⟩ := str_arg (okWide_string Tryz.underlying9 (hval 1 9 v1 rfl rfl)) h1 (wt_arg hsz (j := 1) rfl rfl)
  obtain ⟨l, r2, s2⟩ := strs_arg (okWide_slice Tryz.underlying26 (hval 2 26 v2 rfl rfl)) h2 (wt_arg hsz (j := 2) rfl rfl)
  obtain ⟨t, rfl, zt, _⟩ := str_arg (okWide_string Tryz.underlying9 (hval 3 9 v3 rfl rfl)) h3 (wt_arg hsz (j := 3) rfl rfl)
  refine ((valuesSets_a v s l t s0 zs s2 zt).run (σW W) W [v0, .string s, v2, .string t] (holds_all W) (RelPs.four r0 (.str s) r2 (.str t)) (gw_of_laid hL)).mono fun e' W' ⟨σ', u, he, _, _, hb, hr⟩ => ?_
  subst he
  have hu : u = .bool true := by cases (show Rel1 σ' u (.bool true) from hr); rfl
  subst hu
  exact ⟨_, rfl, law_post laidOut (by kernel_rfl) (by kernel_rfl) Tryz.underlying4 rfl hW' rfl hb⟩

theorem said : Rows.ValuesSetsSaid :=
  OpenClaim.holds_of_cond 3 Tryz.f3 rfl rfl rfl rfl rfl rfl rfl ⟨rfl, rfl, rfl, rfl, rfl⟩ rfl rfl rfl rfl rfl (by kernel_rfl) Tryz.func3 (by kernel_rfl)
    (of_decide_eq_true (by kernel_rfl)) (by unfold Func.isWrapper; first | (rw [if_pos (by decide +kernel)]; kernel_rfl) | (rw [if_neg (by decide +kernel)]; exact ⟨rfl, rfl⟩))
    (fun os started H enc _ F => by rw [OpenClaim.pre_eq_preRow]; exact lifted os started H enc F)
theorem plain (f : FuncId) (fn : Func) (hf : Tryz.pinned.checked.prog.funcNamed "mizzen/mizzenlaw11.ValuesSets" = some f) (hfn : Tryz.pinned.checked.prog.funcs[f]? = some fn) :
    true = Tryz.pinned.checked.prog.looks [] ∧ ∀ (j : Nat) t, fn.params[j]? = some t → Tryz.pinned.checked.prog.wantsStandIn t = false := by
  obtain rfl : f = 3 := Option.some.inj ((show Tryz.prog.funcNamed "mizzen/mizzenlaw11.ValuesSets" = some 3 by kernel_rfl).symm.trans hf) |>.symm
  obtain rfl : fn = Tryz.f3 := (Option.some.inj (Tryz.func3.symm.trans hfn)).symm
  refine ⟨by kernel_rfl, fun j t ht => ?_⟩
  rw [Tryz.params3] at ht
  have ht' := Array.mem_of_getElem? ht
  have key : ([25, 9, 26, 9].all fun t => !Tryz.prog.wantsStandIn t) = true := by kernel_rfl
  have hm : t ∈ [25, 9, 26, 9] := by simpa using ht'
  have h2 := List.all_eq_true.1 key t hm
  have h3 : Tryz.prog.wantsStandIn t = false := by simpa using h2
  exact h3
theorem valuesSets_card : Rows.ValuesSetsCardSaid :=
  Claim7.holds_tied_plain_at .later [] _ _ _ _ said (fun _ h => by cases h) (by kernel_rfl) (fun _ h => by cases h) valuesSets_row_tie rfl ⟨rfl, rfl⟩ (by kernel_rfl) rfl plain (by kernel_rfl)
#print axioms valuesSets_card
end Go.Proofs.YtfnpjakekeojoaaGreatDoor
