/-
  Proved: RecordApart returns true for every input, with the listed package variables tied to the program's text. Without further conditions.
-/
import Derived.Test.YtgcodocajgdmcaaDoorCards
import Derived.Test.YtgcodocajgdmcaaDoorTie
import Derived.Test.YtgcodocajgdmcaaDoorGw
import Derived.Test.YtgcodocajgdmcaaDoorArg
import Derived.Test.YtgcodocajgdmcaaDoorRc3
import Derived.OpenShut
import Derived.Deep.DeepHandedRow
namespace Go.Proofs.YtgcodocajgdmcaaDoor
set_option linter.unusedSimpArgs false
set_option linter.unusedVariables false
open Go.ChangeShapes Go.WideShapes Go.ChangeAt Go.RowKit Go.Deep

theorem okWide_structR {P : Program} {w : World} {r : Reach} {base : Nat} {t : TypeId} {v : Value} {fs : Array Field} (ht : P.underlying t = some (.struct fs)) (h : Value.okWide P w r base t v) : ∃ cs : Array Value, v = .agg cs := by
  simp only [Value.okWide, ht] at h
  obtain ⟨cs, h1, _⟩ := h
  exact ⟨cs, h1⟩
theorem cellsRc : Tryd.prog.cellsOf 44 = 7 := by kernel_rfl
theorem cellsI : Tryd.prog.cellsOf 3 = 1 := by kernel_rfl
theorem int_wf {n : Int} (h : (Lit.int .i64 n).wf = true) : -9223372036854775808 ≤ n ∧ n ≤ 9223372036854775807 := by
  simpa [Lit.wf, IntKind.min, IntKind.max, IntKind.signed, IntKind.bits] using h
theorem rc_arg {H : Type} {enc : TypeId × Value → H} {W : World} {base : Nat} {spare : Nat → Bool} {held : Bool} {v : Value} {d : DataW H} {p : List MemPlace} (hv : ∃ cs : Array Value, v = .agg cs) (h : DataW.Trod enc Tryd.prog W base spare held 44 v d p) (hw : WtOk Tryd.prog 44 d) :
    ∃ r : Rc, RelP (σW W) v (.agg (rcA r)) ∧ r.sz ∧ r.w := by
  obtain ⟨cs, rfl⟩ := hv
  obtain ⟨fuel, hf⟩ := h
  obtain ⟨xs, m, _, hy, hl, hxl, hf⟩ := DataW.trod_struct Tryd.underlying44 hf
  rw [cellsRc] at hl
  obtain ⟨c0, c1, c2, c3, c4, c5, c6, hcs⟩ := list7 hl
  rw [hcs] at hf
  obtain ⟨x0, x1, x2, x3, x4, x5, x6, rfl⟩ := list7 (show xs.length = 7 from hxl)
  have hw' : WtOk Tryd.prog 44 (.agg ([x0, x1, x2, x3, x4, x5, x6].map (·.1))) := by
    have hd : d = .agg ([x0, x1, x2, x3, x4, x5, x6].map (·.1)) := congrArg Prod.fst hy
    exact hd ▸ hw
  have f0 : DataW.trod enc Tryd.prog W base spare held m 9 (List.take (Tryd.prog.cellsOf 9) (List.drop 0 [c0, c1, c2, c3, c4, c5, c6])) = some x0 := hf 0 _ rfl
  have f1 : DataW.trod enc Tryd.prog W base spare held m 3 (List.take (Tryd.prog.cellsOf 3) (List.drop 1 [c0, c1, c2, c3, c4, c5, c6])) = some x1 := hf 1 _ rfl
  have f2 : DataW.trod enc Tryd.prog W base spare held m 3 (List.take (Tryd.prog.cellsOf 3) (List.drop 2 [c0, c1, c2, c3, c4, c5, c6])) = some x2 := hf 2 _ rfl
  have f3 : DataW.trod enc Tryd.prog W base spare held m 3 (List.take (Tryd.prog.cellsOf 3) (List.drop 3 [c0, c1, c2, c3, c4, c5, c6])) = some x3 := hf 3 _ rfl
  have f4 : DataW.trod enc Tryd.prog W base spare held m 9 (List.take (Tryd.prog.cellsOf 9) (List.drop 4 [c0, c1, c2, c3, c4, c5, c6])) = some x4 := hf 4 _ rfl
  have f5 : DataW.trod enc Tryd.prog W base spare held m 9 (List.take (Tryd.prog.cellsOf 9) (List.drop 5 [c0, c1, c2, c3, c4, c5, c6])) = some x5 := hf 5 _ rfl
  have f6 : DataW.trod enc Tryd.prog W base spare held m 9 (List.take (Tryd.prog.cellsOf 9) (List.drop 6 [c0, c1, c2, c3, c4, c5, c6])) = some x6 := hf 6 _ rfl
  have w0 : WtOk Tryd.prog 9 x0.1 := WtOk.part Tryd.underlying44 hw' (j := 0) rfl rfl
  have w4 : WtOk Tryd.prog 9 x4.1 := WtOk.part Tryd.underlying44 hw' (j := 4) rfl rfl
  have w5 : WtOk Tryd.prog 9 x5.1 := WtOk.part Tryd.underlying44 hw' (j := 5) rfl rfl
  have w6 : WtOk Tryd.prog 9 x6.1 := WtOk.part Tryd.underlying44 hw' (j := 6) rfl rfl
  simp only [cellsS, cellsI, List.drop_succ_cons, List.drop_zero, List.take_succ_cons, List.take_zero] at f0 f1 f2 f3 f4 f5 f6
  obtain ⟨s0, e0, y0, _⟩ := DataW.trod_string Tryd.underlying9 f0
  obtain ⟨n1, e1, _, v1⟩ := DataW.trod_int Tryd.underlying3 f1
  obtain ⟨n2, e2, _, v2⟩ := DataW.trod_int Tryd.underlying3 f2
  obtain ⟨n3, e3, _, v3⟩ := DataW.trod_int Tryd.underlying3 f3
  obtain ⟨s4, e4, y4, _⟩ := DataW.trod_string Tryd.underlying9 f4
  obtain ⟨s5, e5, y5, _⟩ := DataW.trod_string Tryd.underlying9 f5
  obtain ⟨s6, e6, y6, _⟩ := DataW.trod_string Tryd.underlying9 f6
  injection e0 with e0; injection e1 with e1; injection e2 with e2; injection e3 with e3; injection e4 with e4; injection e5 with e5; injection e6 with e6
  subst e0 e1 e2 e3 e4 e5 e6
  rw [y0] at w0
  rw [y4] at w4
  rw [y5] at w5
  rw [y6] at w6
  have hcs' : cs.toList = [.string s0, .int .i64 n1, .int .i64 n2, .int .i64 n3, .string s4, .string s5, .string s6] := hcs
  refine ⟨⟨s0, n1, n2, n3, s4, s5, s6⟩, ⟨cs.toList, by simp, ?_⟩, ⟨str_wt w0, str_wt w4, str_wt w5, str_wt w6⟩, int_wf v1, int_wf v2, int_wf v3⟩
  rw [hcs']
  exact .cons (.str _) (.cons (.int _ _) (.cons (.int _ _) (.cons (.int _ _) (.cons (.str _) (.cons (.str _) (.cons (.str _) .nil))))))

noncomputable def laidHeap (os : Os) : Array Obj := setG (setG (setG (World.holding Tryd.prog os ⟨#[], #[], []⟩).heap gi_deBruijn32tab gv_deBruijn32tab) gi_deBruijn64tab gv_deBruijn64tab) gi_uint64pow10 gv_uint64pow10
noncomputable def laidWorld (os : Os) : World :=
  { World.holding Tryd.prog os ⟨#[], #[], []⟩ with heap := setG (setG (laidHeap os) 3 [.iface 186 (.pointer (some ⟨(laidHeap os).size, 0, none⟩))]) 2 [.iface 186 (.pointer (some ⟨(laidHeap os).size + 1, 0, none⟩))]
      ++ #[.cells #[.string ⟨#[118, 97, 108, 117, 101, 32, 111, 117, 116, 32, 111, 102, 32, 114, 97, 110, 103, 101]⟩] 188 (0, 0), .cells #[.string ⟨#[105, 110, 118, 97, 108, 105, 100, 32, 115, 121, 110, 116, 97, 120]⟩] 188 (0, 0)] }
abbrev rcW : Value := .agg #[.string ⟨#[]⟩, .int .i64 0, .int .i64 0, .int .i64 0, .string ⟨#[]⟩, .string ⟨#[]⟩, .string ⟨#[]⟩]
abbrev rcD {H : Type} : DataW H := .agg [.lit (.string []), .lit (.int .i64 0), .lit (.int .i64 0), .lit (.int .i64 0), .lit (.string []), .lit (.string []), .lit (.string [])]

theorem laid_met (os : Os) : laidMet Tryd.prog Rows.recordApartRow.laid ((laidWorld os).forCall (fun _ _ => 0) ⟨#[], #[rcW, rcW], []⟩).memory :=
  laidMet_of_run' 8 (by kernel_rfl) (by kernel_rfl)
theorem reads (os : Os) {H : Type} (enc : TypeId × Value → H) : ∃ places, DataW.whole enc Tryd.prog ((laidWorld os).forCall (fun _ _ => 0) ⟨#[], #[rcW, rcW], []⟩).memory Tryd.f4.params.toList Rows.recordApartSpec.vars false (#[rcW, rcW] : Array Value).toList 8 = some ([rcD, rcD], [], places) :=
  ⟨[], by kernel_rfl⟩
set_option maxRecDepth 100000 in
theorem lifted (os : Os) (started : os.Started) (H : Type) (enc : TypeId × Value → H) (F : Stop.Interp) :
    ReturnsInHanded {} Tryd.checked os 4 .any ((OpenSpec.ofChange Rows.recordApartSpec).preRow enc Tryd.prog Tryd.f4 Rows.recordApartRow.domain false Rows.recordApartRow.laid) (((OpenSpec.ofChange Rows.recordApartSpec).at F).post enc Tryd.prog Tryd.f4 false true false false) := by
  obtain ⟨places, hx⟩ := reads os enc
  refine returnsInHanded_of_row (C := Tryd.checked) (s := OpenSpec.ofChange Rows.recordApartSpec) own started (by kernel_rfl) Tryd.func4
    (witness_row_at (enc := enc) (C := Tryd.checked) false (laidWorld os) #[rcW, rcW] rfl (by kernel_rfl) (by kernel_rfl) (by kernel_rfl)
      (OpenSpec.preRow_of_cond 8 hx (by kernel_rfl) (fun k hk => by cases hk) (by kernel_rfl) (laid_met os))) ?_
  intro W base args ds gs before hval0 hW _ _ hsz0 hL _ _
  have hsz : (DataW.weightsEach Tryd.prog (Tryd.f4.params.toList ++ Rows.recordApartSpec.plain.varTypes Tryd.prog) (ds ++ gs)).all (· ≤ reachBytes) = true := hsz0
  have hval : ∀ (j : Nat) t v, Tryd.f4.params[j]? = some t → args[j]? = some v → Value.okWide Tryd.prog W .any base t v := hval0
  have hW' := hW
  obtain ⟨p, q, hA0, hV, rfl, hfz, hnd⟩ := hW
  have hA : DataW.TrodAll enc Tryd.prog W 0 (fun _ => true) true Tryd.f4.params.toList args.toList ds p := hA0
  rw [Tryd.params4] at hA hval hsz
  clear hA0 hval0
  obtain ⟨v0, vs0, d0, ds0, p0, q0, e0, rfl, rfl, h0, k0⟩ := trodAll_cons hA
  obtain ⟨v1, vs1, d1, ds1, p1, q1, rfl, rfl, rfl, h1, k1⟩ := trodAll_cons k0
  obtain ⟨rfl, rfl, rfl⟩ := trodAll_nil k1
  have e0' : args = #[v0, v1] := by cases args; simp_all
  subst e0'
  obtain ⟨rfl, rfl⟩ := trodVars_none hV
  obtain ⟨a, r0, za, xa⟩ := rc_arg (okWide_structR Tryd.underlying44 (hval 0 44 v0 rfl rfl)) h0 (wt_arg hsz (j := 0) rfl rfl)
  obtain ⟨b, r1, zb, xb⟩ := rc_arg (okWide_structR Tryd.underlying44 (hval 1 44 v1 rfl rfl)) h1 (wt_arg hsz (j := 1) rfl rfl)
  refine ((recordApart_a a b za zb xa xb).run (σW W) W [v0, v1] (holds_all W) (RelPs.two r0 r1) (gw_of_laid hL)).mono fun e' W' ⟨σ', u, he, _, _, hb, hr⟩ => ?_
  subst he
  have hu : u = .bool true := by cases (show Rel1 σ' u (.bool true) from hr); rfl
  subst hu
  exact ⟨_, rfl, law_post laidOut (by kernel_rfl) (by kernel_rfl) Tryd.underlying4 rfl hW' rfl hb⟩

theorem said : Rows.RecordApartSaid :=
  OpenClaim.holds_of_cond 4 Tryd.f4 rfl rfl rfl rfl rfl rfl rfl ⟨rfl, rfl, rfl, rfl, rfl⟩ rfl rfl rfl rfl rfl (by kernel_rfl) Tryd.func4 (by kernel_rfl)
    (of_decide_eq_true (by kernel_rfl)) (by unfold Func.isWrapper; first | (rw [if_pos (by decide +kernel)]; kernel_rfl) | (rw [if_neg (by decide +kernel)]; exact ⟨rfl, rfl⟩))
    (fun os started H enc _ F => by rw [OpenClaim.pre_eq_preRow]; exact lifted os started H enc F)
theorem plain (f : FuncId) (fn : Func) (hf : Tryd.pinned.checked.prog.funcNamed "mizzen/mizzenlaw17.RecordApart" = some f) (hfn : Tryd.pinned.checked.prog.funcs[f]? = some fn) :
    true = Tryd.pinned.checked.prog.looks [] ∧ ∀ (j : Nat) t, fn.params[j]? = some t → Tryd.pinned.checked.prog.wantsStandIn t = false := by
  obtain rfl : f = 4 := Option.some.inj ((show Tryd.prog.funcNamed "mizzen/mizzenlaw17.RecordApart" = some 4 by kernel_rfl).symm.trans hf) |>.symm
  obtain rfl : fn = Tryd.f4 := (Option.some.inj (Tryd.func4.symm.trans hfn)).symm
  refine ⟨by kernel_rfl, fun j t ht => ?_⟩
  rw [Tryd.params4] at ht
  have ht' := Array.mem_of_getElem? ht
  have key : ([44].all fun t => !Tryd.prog.wantsStandIn t) = true := by kernel_rfl
  have hm : t ∈ [44] := by simpa using ht'
  have h2 := List.all_eq_true.1 key t hm
  have h3 : Tryd.prog.wantsStandIn t = false := by simpa using h2
  exact h3
theorem recordApart_card : Rows.RecordApartCardSaid :=
  Claim7.holds_tied_plain_at .later [] _ _ _ _ said (fun _ h => by cases h) (by kernel_rfl) (fun _ h => by cases h) recordApart_row_tie rfl ⟨rfl, rfl⟩ (by kernel_rfl) rfl plain (by kernel_rfl)
#print axioms recordApart_card
end Go.Proofs.YtgcodocajgdmcaaDoor
