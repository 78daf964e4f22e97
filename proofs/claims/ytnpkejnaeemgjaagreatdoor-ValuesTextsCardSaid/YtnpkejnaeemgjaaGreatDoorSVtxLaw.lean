/-
  Proved: ValuesTexts returns true for every input, with the listed package variables tied to the program's text. Without further conditions.
-/
import Derived.Test.YtnpkejnaeemgjaaGreatDoorS50
import Derived.Test.YtnpkejnaeemgjaaGreatDoorRows
import Derived.Lib.LaidU8
import Derived.Shelf.Vars
import Derived.Test.YtnpkejnaeemgjaaGreatDoorCards
import Derived.Test.YtnpkejnaeemgjaaGreatDoorTie
import Derived.OpenShut
import Derived.Deep.DeepHandedRow
namespace Go.Proofs.YtnpkejnaeemgjaaGreatDoor
open Go.RowKit Go.Lib
theorem gl_mapM_len {α β : Type} {f : α → Option β} : ∀ {l : List α} {r : List β}, l.mapM f = some r → r.length = l.length
  | [], r, h => by simp at h; subst h; rfl
  | x :: l, r, h => by
    simp only [List.mapM_cons, Option.bind_eq_bind, Option.bind_eq_some_iff, Option.pure_def, Option.some.injEq] at h
    obtain ⟨b, _, bs, h2, rfl⟩ := h
    simp [gl_mapM_len h2]
def litV : DataW Unit → Value
  | .lit (.int k z) => .int k z
  | .lit (.string l) => .string ⟨l.toArray⟩
  | _ => undef
theorem gl_arr {P : Program} {w : World} {n : String} {g : Nat} {t e : TypeId} {len fuel : Nat} {ds : List (DataW Unit)} {p : List MemPlace} {cs : Array Value} (hg : P.globalNamed n = some g) (hu : P.underlying t = some (.array len e))
    (he : (match P.underlying e with | some (.int _) => true | some .string => true | _ => false) = true) (hc : P.cellsOf e = 1) (hct : P.cellsOf t = len) (hv : w.var? P n = some cs) (h : DataW.trod (fun _ => ()) P w 0 (fun _ => true) false fuel t cs.toList = some (.agg ds, p)) :
    ∃ ty fr, w.heap[g]? = some (.cells (ds.map litV).toArray ty fr) := by
  have key : cs = (ds.map litV).toArray := by
    cases fuel with
    | zero => simp [DataW.trod] at h
    | succ fuel =>
      simp only [DataW.trod, hu, hc] at h
      split at h
      · rename_i hl
        obtain ⟨xs, hm, hx⟩ := Option.map_eq_some_iff.1 h
        have hds : xs.map (·.1) = ds := by
          have := congrArg Prod.fst hx
          simpa using this
        have hxl : xs.length = len := by have := gl_mapM_len hm; simpa using this
        refine Array.toList_inj.1 ?_
        apply List.ext_getElem?
        intro i
        by_cases hi : i < len
        · obtain ⟨b, hb, hf⟩ := mapM_at hm i i (by simp [hi])
          have hi2 : i < cs.toList.length := by rw [hl]; omega
          have e1 : (cs.toList.drop (i * 1)).take 1 = [cs.toList[i]] := by
            rw [Nat.mul_one, List.drop_eq_getElem_cons hi2]; rfl
          rw [e1] at hf
          have hdi : ds[i]? = some b.1 := by rw [← hds]; simp [hb]
          have hlit : litV b.1 = cs.toList[i] := by
            cases hue : P.underlying e with
            | none => rw [hue] at he; cases he
            | some u =>
              rw [hue] at he
              cases u <;> first | cases he | skip
              · obtain ⟨n', k1, k2, _⟩ := DataW.trod_int hue hf
                have k3 := (List.cons.inj k1).1
                rw [k3]
                cases k2
                rfl
              · obtain ⟨s, k1, k2, _⟩ := DataW.trod_string hue hf
                have k3 := (List.cons.inj k1).1
                rw [k3]
                cases k2
                simp [litV]
          simp only [List.getElem?_map, hdi, Option.map_some, hlit, List.getElem?_eq_getElem hi2]
        · have h2 : ds.length = len := by rw [← hds]; simp [hxl]
          rw [List.getElem?_eq_none (by omega), List.getElem?_eq_none (by simp; omega)]
      · cases h
  rw [← key]
  simp only [World.var?, hg, Option.bind_some] at hv
  split at hv
  · rename_i c t' fr hh
    cases hv
    exact ⟨t', fr, hh⟩
  · cases hv
theorem gl_ifc {P : Program} {w : World} {n : String} {g : Nat} {t : TypeId} {ms : Array (String × TypeId)} {fuel : Nat} {d : DataW Unit} {p : List MemPlace} {cs : Array Value} (hg : P.globalNamed n = some g) (hu : P.underlying t = some (.interface ms))
    (hv : w.var? P n = some cs) (h : DataW.trod (fun _ => ()) P w 0 (fun _ => true) false fuel t cs.toList = some (d, p)) :
    ∃ ev ty fr, w.heap[g]? = some (.cells #[ev] ty fr) ∧ (ev = .nilIface ∨ ∃ te pe, ev = .iface te pe) := by
  have key : ∃ ev, cs = #[ev] ∧ (ev = .nilIface ∨ ∃ te pe, ev = .iface te pe) := by
    obtain ⟨l⟩ := cs
    cases fuel with
    | zero => simp [DataW.trod] at h
    | succ fuel =>
      simp only [DataW.trod, hu] at h
      split at h
      all_goals first
        | exact ⟨_, by simp_all; rfl, .inl rfl⟩
        | exact ⟨_, by simp_all; rfl, .inr ⟨_, _, rfl⟩⟩
        | (simp_all; done)
  obtain ⟨ev, rfl, hev⟩ := key
  simp only [World.var?, hg, Option.bind_some] at hv
  split at hv
  · rename_i c t' fr hh
    cases hv
    exact ⟨ev, t', fr, hh, hev⟩
  · cases hv
theorem gw_6 {W : World} (h : laidMet Tryz.prog Rows.valuesTextsRow.laid W) : ∃ ty fr, W.heap[6]? = some (.cells gl_6.toArray ty fr) := by
  have h1 : VarReads Tryz.prog W "math/bits.deBruijn32tab" Rows.laid_math_bits_deBruijn32tab := laidMet.reads h (by simp [Rows.valuesTextsRow])
  obtain ⟨g, t, cs, fuel, p, e1, e2, e3, e4⟩ := h1
  obtain rfl := Option.some.inj ((show Tryz.prog.globalNamed "math/bits.deBruijn32tab" = some 6 by kernel_rfl).symm.trans e1)
  obtain rfl := Option.some.inj ((show (Tryz.prog.globals[6]?).map (·.type) = some 259 by kernel_rfl).symm.trans e2)
  exact gl_arr (show Tryz.prog.globalNamed "math/bits.deBruijn32tab" = some 6 by kernel_rfl) Tryz.underlying259 (by kernel_rfl) (by kernel_rfl) (by kernel_rfl) e3 e4
theorem gw_7 {W : World} (h : laidMet Tryz.prog Rows.valuesTextsRow.laid W) : ∃ ty fr, W.heap[7]? = some (.cells gl_7.toArray ty fr) := by
  have h1 : VarReads Tryz.prog W "math/bits.deBruijn64tab" Rows.laid_math_bits_deBruijn64tab := laidMet.reads h (by simp [Rows.valuesTextsRow])
  obtain ⟨g, t, cs, fuel, p, e1, e2, e3, e4⟩ := h1
  obtain rfl := Option.some.inj ((show Tryz.prog.globalNamed "math/bits.deBruijn64tab" = some 7 by kernel_rfl).symm.trans e1)
  obtain rfl := Option.some.inj ((show (Tryz.prog.globals[7]?).map (·.type) = some 260 by kernel_rfl).symm.trans e2)
  exact gl_arr (show Tryz.prog.globalNamed "math/bits.deBruijn64tab" = some 7 by kernel_rfl) Tryz.underlying260 (by kernel_rfl) (by kernel_rfl) (by kernel_rfl) e3 e4
theorem gw_5 {W : World} (h : laidMet Tryz.prog Rows.valuesTextsRow.laid W) : ∃ ty fr, W.heap[5]? = some (.cells gl_5.toArray ty fr) := by
  have h1 : VarReads Tryz.prog W "internal/strconv.uint64pow10" Rows.laid_internal_strconv_uint64pow10 := laidMet.reads h (by simp [Rows.valuesTextsRow])
  obtain ⟨g, t, cs, fuel, p, e1, e2, e3, e4⟩ := h1
  obtain rfl := Option.some.inj ((show Tryz.prog.globalNamed "internal/strconv.uint64pow10" = some 5 by kernel_rfl).symm.trans e1)
  obtain rfl := Option.some.inj ((show (Tryz.prog.globals[5]?).map (·.type) = some 256 by kernel_rfl).symm.trans e2)
  exact gl_arr (show Tryz.prog.globalNamed "internal/strconv.uint64pow10" = some 5 by kernel_rfl) Tryz.underlying256 (by kernel_rfl) (by kernel_rfl) (by kernel_rfl) e3 e4
theorem gw_2 {W : World} (h : laidMet Tryz.prog Rows.valuesTextsRow.laid W) : ∃ ev ty fr, W.heap[2]? = some (.cells #[ev] ty fr) ∧ (ev = .nilIface ∨ ∃ te pe, ev = .iface te pe) := by
  have h1 : VarReads Tryz.prog W "strconv.ErrRange" Rows.laid_strconv_ErrRange := laidMet.reads h (by simp [Rows.valuesTextsRow])
  obtain ⟨g, t, cs, fuel, p, e1, e2, e3, e4⟩ := h1
  obtain rfl := Option.some.inj ((show Tryz.prog.globalNamed "strconv.ErrRange" = some 2 by kernel_rfl).symm.trans e1)
  obtain rfl := Option.some.inj ((show (Tryz.prog.globals[2]?).map (·.type) = some 157 by kernel_rfl).symm.trans e2)
  exact gl_ifc (show Tryz.prog.globalNamed "strconv.ErrRange" = some 2 by kernel_rfl) Tryz.underlying157 e3 e4
theorem gw_1 {W : World} (h : laidMet Tryz.prog Rows.valuesTextsRow.laid W) : ∃ ev ty fr, W.heap[1]? = some (.cells #[ev] ty fr) ∧ (ev = .nilIface ∨ ∃ te pe, ev = .iface te pe) := by
  have h1 : VarReads Tryz.prog W "strconv.ErrSyntax" Rows.laid_strconv_ErrSyntax := laidMet.reads h (by simp [Rows.valuesTextsRow])
  obtain ⟨g, t, cs, fuel, p, e1, e2, e3, e4⟩ := h1
  obtain rfl := Option.some.inj ((show Tryz.prog.globalNamed "strconv.ErrSyntax" = some 1 by kernel_rfl).symm.trans e1)
  obtain rfl := Option.some.inj ((show (Tryz.prog.globals[1]?).map (·.type) = some 157 by kernel_rfl).symm.trans e2)
  exact gl_ifc (show Tryz.prog.globalNamed "strconv.ErrSyntax" = some 1 by kernel_rfl) Tryz.underlying157 e3 e4
theorem gz_0 {W : World} (h : W.ShapedOpen Tryz.prog) : ∃ m, W.cell? ⟨0, 0, none⟩ = some (.int .i64 m) := cell_of_shapedOpen_int h (of_decide_eq_true (by kernel_rfl)) (show _ = some (#[.int .i64 0], 3) by kernel_rfl) rfl (by kernel_rfl) (by kernel_rfl) (by kernel_rfl)
theorem gw_of_laid {W : World} (h : laidMet Tryz.prog Rows.valuesTextsRow.laid W) (hS : W.ShapedOpen Tryz.prog) : GW W := by
  refine ⟨fun x hx => ?_, fun x hx => ?_, fun x hx => ?_⟩
  · simp only [globL, List.mem_cons, List.not_mem_nil, or_false] at hx
    rcases hx with rfl | rfl | rfl
    · exact gw_6 h
    · exact gw_7 h
    · exact gw_5 h
  · simp only [globI, List.mem_cons, List.not_mem_nil, or_false] at hx
    rcases hx with rfl | rfl
    · exact gw_2 h
    · exact gw_1 h
  · simp only [globZ, List.mem_cons, List.not_mem_nil, or_false] at hx
    rcases hx with rfl
    · exact gz_0 hS
end Go.Proofs.YtnpkejnaeemgjaaGreatDoor
namespace Go.Proofs.YtnpkejnaeemgjaaGreatDoor
set_option linter.unusedSimpArgs false
set_option linter.unusedVariables false
open Go.ChangeShapes Go.WideShapes Go.ChangeAt Go.RowKit Go.Deep

abbrev obW : Value := .agg #[.int .i64 0, .bool false, .int .i64 0, .string ⟨#[]⟩, .slice none 0 0, .slice none 0 0]
abbrev obD {H : Type} : DataW H := .agg [.lit (.int .i64 0), .lit (.bool false), .lit (.int .i64 0), .lit (.string []), .nil, .nil]

theorem laid_met (os : Os) : laidMet Tryz.prog Rows.valuesTextsRow.laid ((laidWorld os).forCall (fun _ _ => 0) ⟨#[], #[obW, obW, obW], []⟩).memory :=
  laidMet_of_run' 8 (by kernel_rfl) (by kernel_rfl)
theorem reads (os : Os) {H : Type} (enc : TypeId × Value → H) : ∃ places, DataW.whole enc Tryz.prog ((laidWorld os).forCall (fun _ _ => 0) ⟨#[], #[obW, obW, obW], []⟩).memory Tryz.f4.params.toList Rows.valuesTextsSpec.vars false (#[obW, obW, obW] : Array Value).toList 8 = some ([obD, obD, obD], [], places) :=
  ⟨[], by kernel_rfl⟩
set_option maxRecDepth 100000 in
theorem lifted (os : Os) (started : os.Started) (H : Type) (enc : TypeId × Value → H) (F : Stop.Interp) :
    ReturnsInHanded {} Tryz.checked os 4 .any ((OpenSpec.ofChange Rows.valuesTextsSpec).preRow enc Tryz.prog Tryz.f4 Rows.valuesTextsRow.domain false Rows.valuesTextsRow.laid) (((OpenSpec.ofChange Rows.valuesTextsSpec).at F).post enc Tryz.prog Tryz.f4 false true false false) := by
  obtain ⟨places, hx⟩ := reads os enc
  refine returnsInHanded_of_row (C := Tryz.checked) (s := OpenSpec.ofChange Rows.valuesTextsSpec) own started (by kernel_rfl) Tryz.func4
    (witness_row_at (enc := enc) (C := Tryz.checked) false (laidWorld os) #[obW, obW, obW] rfl (by kernel_rfl) (by kernel_rfl) (by kernel_rfl)
      (OpenSpec.preRow_of_cond 8 hx (by kernel_rfl) (fun k hk => by cases hk) (by kernel_rfl) (laid_met os))) ?_
  intro W base args ds gs before hval0 hW _ _ hsz0 hL hOpen _
  have hsz : (DataW.weightsEach Tryz.prog (Tryz.f4.params.toList ++ Rows.valuesTextsSpec.plain.varTypes Tryz.prog) (ds ++ gs)).all (· ≤ reachBytes) = true := hsz0
  have hval : ∀ (j : Nat) t v, Tryz.f4.params[j]? = some t → args[j]? = some v → Value.okWide Tryz.prog W .any base t v := hval0
  have hW' := hW
  obtain ⟨p, q, hA0, hV, rfl, hfz, hnd⟩ := hW
  have hA : DataW.TrodAll enc Tryz.prog W 0 (fun _ => true) true Tryz.f4.params.toList args.toList ds p := hA0
  rw [Tryz.params4] at hA hval hsz
  clear hA0 hval0
  obtain ⟨v0, vs0, d0, ds0, p0, q0, e0, rfl, rfl, h0, k0⟩ := trodAll_cons hA
  obtain ⟨v1, vs1, d1, ds1, p1, q1, rfl, rfl, rfl, h1, k1⟩ := trodAll_cons k0
  obtain ⟨v2, vs2, d2, ds2, p2, q2, rfl, rfl, rfl, h2, k2⟩ := trodAll_cons k1
  obtain ⟨rfl, rfl, rfl⟩ := trodAll_nil k2
  have e0' : args = #[v0, v1, v2] := by cases args; simp_all
  subst e0'
  obtain ⟨rfl, rfl⟩ := trodVars_none hV
  obtain ⟨x, r0, s0, n0⟩ := val_argN (okWide_structR Tryz.underlying25 (hval 0 25 v0 rfl rfl)) h0 (wt_arg hsz (j := 0) rfl rfl)
  obtain ⟨y, r1, s1, n1⟩ := val_argN (okWide_structR Tryz.underlying25 (hval 1 25 v1 rfl rfl)) h1 (wt_arg hsz (j := 1) rfl rfl)
  obtain ⟨z, r2, s2, n2⟩ := val_argN (okWide_structR Tryz.underlying25 (hval 2 25 v2 rfl rfl)) h2 (wt_arg hsz (j := 2) rfl rfl)
  refine ((valuesTexts_a x y z s0 s1 s2 n0 n1 n2).run (σW W) W [v0, v1, v2] (holds_all W) (RelPs.three r0 r1 r2) (gw_of_laid hL hOpen)).mono fun e' W' ⟨σ', u, he, _, _, hb, hr⟩ => ?_
  subst he
  have hu : u = .bool true := by cases (show Rel1 σ' u (.bool true) from hr); rfl
  subst hu
  exact ⟨_, rfl, law_post laidOut (by kernel_rfl) (by kernel_rfl) Tryz.underlying4 rfl hW' rfl hb⟩

theorem said : Rows.ValuesTextsSaid :=
  OpenClaim.holds_of_cond 4 Tryz.f4 rfl rfl rfl rfl rfl rfl rfl ⟨rfl, rfl, rfl, rfl, rfl⟩ rfl rfl rfl rfl rfl (by kernel_rfl) Tryz.func4 (by kernel_rfl)
    (of_decide_eq_true (by kernel_rfl)) (by unfold Func.isWrapper; first | (rw [if_pos (by decide +kernel)]; kernel_rfl) | (rw [if_neg (by decide +kernel)]; exact ⟨rfl, rfl⟩))
    (fun os started H enc _ F => by rw [OpenClaim.pre_eq_preRow]; exact lifted os started H enc F)
theorem plain (f : FuncId) (fn : Func) (hf : Tryz.pinned.checked.prog.funcNamed "mizzen/mizzenlaw11.ValuesTexts" = some f) (hfn : Tryz.pinned.checked.prog.funcs[f]? = some fn) :
    true = Tryz.pinned.checked.prog.looks [] ∧ ∀ (j : Nat) t, fn.params[j]? = some t → Tryz.pinned.checked.prog.wantsStandIn t = false := by
  obtain rfl : f = 4 := Option.some.inj ((show Tryz.prog.funcNamed "mizzen/mizzenlaw11.ValuesTexts" = some 4 by kernel_rfl).symm.trans hf) |>.symm
  obtain rfl : fn = Tryz.f4 := (Option.some.inj (Tryz.func4.symm.trans hfn)).symm
  refine ⟨by kernel_rfl, fun j t ht => ?_⟩
  rw [Tryz.params4] at ht
  have ht' := Array.mem_of_getElem? ht
  have key : ([25, 25, 25].all fun t => !Tryz.prog.wantsStandIn t) = true := by kernel_rfl
  have hm : t ∈ [25, 25, 25] := by simpa using ht'
  have h2 := List.all_eq_true.1 key t hm
  have h3 : Tryz.prog.wantsStandIn t = false := by simpa using h2
  exact h3
theorem valuesTexts_card : Rows.ValuesTextsCardSaid :=
  Claim7.holds_tied_plain_at .later [] _ _ _ _ said (fun _ h => by cases h) (by kernel_rfl) (fun _ h => by cases h) valuesTexts_row_tie rfl ⟨rfl, rfl⟩ (by kernel_rfl) rfl plain (by kernel_rfl)
#print axioms valuesTexts_card
end Go.Proofs.YtnpkejnaeemgjaaGreatDoor
