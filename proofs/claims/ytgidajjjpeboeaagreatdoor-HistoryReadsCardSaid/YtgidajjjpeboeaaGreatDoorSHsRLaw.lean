/-
  Proved: HistoryReads returns true for every input, with the listed package variables tied to the program's text. Without further conditions.
-/
import Derived.Test.YtgidajjjpeboeaaGreatDoorS46
import Derived.Test.YtgidajjjpeboeaaGreatDoorRows
import Derived.Lib.LaidU8
import Derived.Shelf.Vars
import Derived.Test.YtgidajjjpeboeaaGreatDoorCards
import Derived.Test.YtgidajjjpeboeaaGreatDoorTie
import Derived.OpenShut
import Derived.Deep.DeepHandedRow
namespace Go.Proofs.YtgidajjjpeboeaaGreatDoor
open Go.RowKit Go.Lib
theorem gl_mapM_len {α β : Type} {f : α → Option β} : ∀ {l : List α} {r : List β}, l.mapM f = some r → r.length = l.length
  | [], r, h => by simp at h; subst h; rfl
  | x :: l, r, h => by
    simp only [List.mapM_cons, Option.bind_eq_bind, Option.bind_eq_some_iff, Option.pure_def, Option.some.injEq] at h
    obtain ⟨b, _, bs, h2, rfl⟩ := h
    simp [gl_mapM_len h2]
def litV : DataW Unit → Value
  | .lit (.int k z) => .int k z
  | .lit (.string l) => .string ⟨l.toArray⟩
  | _ => undef
theorem gl_arr {P : Program} {w : World} {n : String} {g : Nat} {t e : TypeId} {len fuel : Nat} {ds : List (DataW Unit)} {p : List MemPlace} {cs : Array Value} (hg : P.globalNamed n = some g) (hu : P.underlying t = some (.array len e))
    (he : (match P.underlying e with | some (.int _) => true | some .string => true | _ => false) = true) (hc : P.cellsOf e = 1) (hct : P.cellsOf t = len) (hv : w.var? P n = some cs) (h : DataW.trod (fun _ => ()) P w 0 (fun _ => true) false fuel t cs.toList = some (.agg ds, p)) :
    ∃ ty fr, w.heap[g]? = some (.cells (ds.map litV).toArray ty fr) := by
  have key : cs = (ds.map litV).toArray := by
    cases fuel with
    | zero => simp [DataW.trod] at h
    | succ fuel =>
      simp only [DataW.trod, hu, hc] at h
      split at h
      · rename_i hl
        obtain ⟨xs, hm, hx⟩ := Option.map_eq_some_iff.1 h
        have hds : xs.map (·.1) = ds := by
          have := congrArg Prod.fst hx
          simpa using this
        have hxl : xs.length = len := by have := gl_mapM_len hm; simpa using this
        refine Array.toList_inj.1 ?_
        apply List.ext_getElem?
        intro i
        by_cases hi : i < len
        · obtain ⟨b, hb, hf⟩ := mapM_at hm i i (by simp [hi])
          have hi2 : i < cs.toList.length := by rw [hl]; omega
          have e1 : (cs.toList.drop (i * 1)).take 1 = [cs.toList[i]] := by
            rw [Nat.mul_one, List.drop_eq_getElem_cons hi2]; rfl
          rw [e1] at hf
          have hdi : ds[i]? = some b.1 := by rw [← hds]; simp [hb]
          have hlit : litV b.1 = cs.toList[i] := by
            cases hue : P.underlying e with
            | none => rw [hue] at he; cases he
            | some u =>
              rw [hue] at he
              cases u <;> first | cases he | skip
              · obtain ⟨n', k1, k2, _⟩ := DataW.trod_int hue hf
                have k3 := (List.cons.inj k1).1
                rw [k3]
                cases k2
                rfl
              · obtain ⟨s, k1, k2, _⟩ := DataW.trod_string hue hf
                have k3 := (List.cons.inj k1).1
                rw [k3]
                cases k2
                simp [litV]
          simp only [List.getElem?_map, hdi, Option.map_some, hlit, List.getElem?_eq_getElem hi2]
        · have h2 : ds.length = len := by rw [← hds]; simp [hxl]
          rw [List.getElem?_eq_none (by omega), List.getElem?_eq_none (by simp; omega)]
      · cases h
  rw [← key]
  simp only [World.var?, hg, Option.bind_some] at hv
  split at hv
  · rename_i c t' fr hh
    cases hv
    exact ⟨t', fr, hh⟩
  · cases hv
theorem gl_ifc {P : Program} {w : World} {n : String} {g : Nat} {t : TypeId} {ms : Array (String × TypeId)} {fuel : Nat} {d : DataW Unit} {p : List MemPlace} {cs : Array Value} (hg : P.globalNamed n = some g) (hu : P.underlying t = some (.interface ms))
    (hv : w.var? P n = some cs) (h : DataW.trod (fun _ => ()) P w 0 (fun _ => true) false fuel t cs.toList = some (d, p)) :
    ∃ ev ty fr, w.heap[g]? = some (.cells #[ev] ty fr) ∧ (ev = .nilIface ∨ ∃ te pe, ev = .iface te pe) := by
  have key : ∃ ev, cs = #[ev] ∧ (ev = .nilIface ∨ ∃ te pe, ev = .iface te pe) := by
    obtain ⟨l⟩ := cs
    cases fuel with
    | zero => simp [DataW.trod] at h
    | succ fuel =>
      simp only [DataW.trod, hu] at h
      split at h
      all_goals first
        | exact ⟨_, by simp_all; rfl, .inl rfl⟩
        | exact ⟨_, by simp_all; rfl, .inr ⟨_, _, rfl⟩⟩
        | (simp_all; done)
  obtain ⟨ev, rfl, hev⟩ := key
  simp only [World.var?, hg, Option.bind_some] at hv
  split at hv
  · rename_i c t' fr hh
    cases hv
    exact ⟨ev, t', fr, hh, hev⟩
  · cases hv
theorem gw_5 {W : World} (h : laidMet Tryz.prog Rows.historyReadsRow.laid W) : ∃ ty fr, W.heap[5]? = some (.cells gl_5.toArray ty fr) := by
  have h1 : VarReads Tryz.prog W "math/bits.deBruijn32tab" Rows.laid_math_bits_deBruijn32tab := laidMet.reads h (by simp [Rows.historyReadsRow])
  obtain ⟨g, t, cs, fuel, p, e1, e2, e3, e4⟩ := h1
  obtain rfl := Option.some.inj ((show Tryz.prog.globalNamed "math/bits.deBruijn32tab" = some 5 by kernel_rfl).symm.trans e1)
  obtain rfl := Option.some.inj ((show (Tryz.prog.globals[5]?).map (·.type) = some 251 by kernel_rfl).symm.trans e2)
  exact gl_arr (show Tryz.prog.globalNamed "math/bits.deBruijn32tab" = some 5 by kernel_rfl) Tryz.underlying251 (by kernel_rfl) (by kernel_rfl) (by kernel_rfl) e3 e4
theorem gw_6 {W : World} (h : laidMet Tryz.prog Rows.historyReadsRow.laid W) : ∃ ty fr, W.heap[6]? = some (.cells gl_6.toArray ty fr) := by
  have h1 : VarReads Tryz.prog W "math/bits.deBruijn64tab" Rows.laid_math_bits_deBruijn64tab := laidMet.reads h (by simp [Rows.historyReadsRow])
  obtain ⟨g, t, cs, fuel, p, e1, e2, e3, e4⟩ := h1
  obtain rfl := Option.some.inj ((show Tryz.prog.globalNamed "math/bits.deBruijn64tab" = some 6 by kernel_rfl).symm.trans e1)
  obtain rfl := Option.some.inj ((show (Tryz.prog.globals[6]?).map (·.type) = some 252 by kernel_rfl).symm.trans e2)
  exact gl_arr (show Tryz.prog.globalNamed "math/bits.deBruijn64tab" = some 6 by kernel_rfl) Tryz.underlying252 (by kernel_rfl) (by kernel_rfl) (by kernel_rfl) e3 e4
theorem gw_4 {W : World} (h : laidMet Tryz.prog Rows.historyReadsRow.laid W) : ∃ ty fr, W.heap[4]? = some (.cells gl_4.toArray ty fr) := by
  have h1 : VarReads Tryz.prog W "internal/strconv.uint64pow10" Rows.laid_internal_strconv_uint64pow10 := laidMet.reads h (by simp [Rows.historyReadsRow])
  obtain ⟨g, t, cs, fuel, p, e1, e2, e3, e4⟩ := h1
  obtain rfl := Option.some.inj ((show Tryz.prog.globalNamed "internal/strconv.uint64pow10" = some 4 by kernel_rfl).symm.trans e1)
  obtain rfl := Option.some.inj ((show (Tryz.prog.globals[4]?).map (·.type) = some 249 by kernel_rfl).symm.trans e2)
  exact gl_arr (show Tryz.prog.globalNamed "internal/strconv.uint64pow10" = some 4 by kernel_rfl) Tryz.underlying249 (by kernel_rfl) (by kernel_rfl) (by kernel_rfl) e3 e4
theorem gw_0 {W : World} (h : laidMet Tryz.prog Rows.historyReadsRow.laid W) : ∃ ty fr, W.heap[0]? = some (.cells gl_0.toArray ty fr) := by
  have h1 : VarReads Tryz.prog W "mizzen/object.order" Rows.laid_mizzen_object_order := laidMet.reads h (by simp [Rows.historyReadsRow])
  obtain ⟨g, t, cs, fuel, p, e1, e2, e3, e4⟩ := h1
  obtain rfl := Option.some.inj ((show Tryz.prog.globalNamed "mizzen/object.order" = some 0 by kernel_rfl).symm.trans e1)
  obtain rfl := Option.some.inj ((show (Tryz.prog.globals[0]?).map (·.type) = some 179 by kernel_rfl).symm.trans e2)
  exact gl_arr (show Tryz.prog.globalNamed "mizzen/object.order" = some 0 by kernel_rfl) Tryz.underlying179 (by kernel_rfl) (by kernel_rfl) (by kernel_rfl) e3 e4
theorem gw_3 {W : World} (h : laidMet Tryz.prog Rows.historyReadsRow.laid W) : ∃ ev ty fr, W.heap[3]? = some (.cells #[ev] ty fr) ∧ (ev = .nilIface ∨ ∃ te pe, ev = .iface te pe) := by
  have h1 : VarReads Tryz.prog W "strconv.ErrRange" Rows.laid_strconv_ErrRange := laidMet.reads h (by simp [Rows.historyReadsRow])
  obtain ⟨g, t, cs, fuel, p, e1, e2, e3, e4⟩ := h1
  obtain rfl := Option.some.inj ((show Tryz.prog.globalNamed "strconv.ErrRange" = some 3 by kernel_rfl).symm.trans e1)
  obtain rfl := Option.some.inj ((show (Tryz.prog.globals[3]?).map (·.type) = some 107 by kernel_rfl).symm.trans e2)
  exact gl_ifc (show Tryz.prog.globalNamed "strconv.ErrRange" = some 3 by kernel_rfl) Tryz.underlying107 e3 e4
theorem gw_2 {W : World} (h : laidMet Tryz.prog Rows.historyReadsRow.laid W) : ∃ ev ty fr, W.heap[2]? = some (.cells #[ev] ty fr) ∧ (ev = .nilIface ∨ ∃ te pe, ev = .iface te pe) := by
  have h1 : VarReads Tryz.prog W "strconv.ErrSyntax" Rows.laid_strconv_ErrSyntax := laidMet.reads h (by simp [Rows.historyReadsRow])
  obtain ⟨g, t, cs, fuel, p, e1, e2, e3, e4⟩ := h1
  obtain rfl := Option.some.inj ((show Tryz.prog.globalNamed "strconv.ErrSyntax" = some 2 by kernel_rfl).symm.trans e1)
  obtain rfl := Option.some.inj ((show (Tryz.prog.globals[2]?).map (·.type) = some 107 by kernel_rfl).symm.trans e2)
  exact gl_ifc (show Tryz.prog.globalNamed "strconv.ErrSyntax" = some 2 by kernel_rfl) Tryz.underlying107 e3 e4
theorem gz_1 {W : World} (h : W.ShapedOpen Tryz.prog) : ∃ m, W.cell? ⟨1, 0, none⟩ = some (.int .i64 m) := cell_of_shapedOpen_int h (of_decide_eq_true (by kernel_rfl)) (show _ = some (#[.int .i64 0], 3) by kernel_rfl) rfl (by kernel_rfl) (by kernel_rfl) (by kernel_rfl)
theorem gw_of_laid {W : World} (h : laidMet Tryz.prog Rows.historyReadsRow.laid W) (hS : W.ShapedOpen Tryz.prog) : GW W := by
  refine ⟨fun x hx => ?_, fun x hx => ?_, fun x hx => ?_⟩
  · simp only [globL, List.mem_cons, List.not_mem_nil, or_false] at hx
    rcases hx with rfl | rfl | rfl | rfl
    · exact gw_5 h
    · exact gw_6 h
    · exact gw_4 h
    · exact gw_0 h
  · simp only [globI, List.mem_cons, List.not_mem_nil, or_false] at hx
    rcases hx with rfl | rfl
    · exact gw_3 h
    · exact gw_2 h
  · simp only [globZ, List.mem_cons, List.not_mem_nil, or_false] at hx
    rcases hx with rfl
    · exact gz_1 hS
end Go.Proofs.YtgidajjjpeboeaaGreatDoor
namespace Go.Proofs.YtgidajjjpeboeaaGreatDoor
set_option linter.unusedSimpArgs false
set_option linter.unusedVariables false
open Go.ChangeShapes Go.WideShapes Go.ChangeAt Go.RowKit Go.Deep

noncomputable def laidHeap (os : Os) : Array Obj := setG (setG (setG (setG (World.holding Tryz.prog os ⟨#[], #[], []⟩).heap gi_deBruijn32tab gv_deBruijn32tab) gi_deBruijn64tab gv_deBruijn64tab) gi_uint64pow10 gv_uint64pow10) gi_order gv_order
noncomputable def laidWorld (os : Os) : World :=
  { World.holding Tryz.prog os ⟨#[], #[], []⟩ with heap := setG (setG (laidHeap os) 3 [.iface 240 (.pointer (some ⟨(laidHeap os).size, 0, none⟩))]) 2 [.iface 240 (.pointer (some ⟨(laidHeap os).size + 1, 0, none⟩))]
      ++ #[.cells #[.string ⟨#[118, 97, 108, 117, 101, 32, 111, 117, 116, 32, 111, 102, 32, 114, 97, 110, 103, 101]⟩] 242 (0, 0), .cells #[.string ⟨#[105, 110, 118, 97, 108, 105, 100, 32, 115, 121, 110, 116, 97, 120]⟩] 242 (0, 0)] }

theorem laid_met (os : Os) : laidMet Tryz.prog Rows.historyReadsRow.laid ((laidWorld os).forCall (fun _ _ => 0) ⟨#[], #[.slice none 0 0, .string ⟨#[]⟩], []⟩).memory :=
  laidMet_of_run' 8 (by kernel_rfl) (by kernel_rfl)
theorem reads (os : Os) {H : Type} (enc : TypeId × Value → H) : ∃ places, DataW.whole enc Tryz.prog ((laidWorld os).forCall (fun _ _ => 0) ⟨#[], #[.slice none 0 0, .string ⟨#[]⟩], []⟩).memory Tryz.f5.params.toList Rows.historyReadsSpec.vars false (#[.slice none 0 0, .string ⟨#[]⟩] : Array Value).toList 8 = some ([.nil, .lit (.string [])], [], places) :=
  ⟨[], by kernel_rfl⟩
set_option maxRecDepth 100000 in
theorem lifted (os : Os) (started : os.Started) (H : Type) (enc : TypeId × Value → H) (F : Stop.Interp) :
    ReturnsInHanded {} Tryz.checked os 5 .any ((OpenSpec.ofChange Rows.historyReadsSpec).preRow enc Tryz.prog Tryz.f5 Rows.historyReadsRow.domain false Rows.historyReadsRow.laid) (((OpenSpec.ofChange Rows.historyReadsSpec).at F).post enc Tryz.prog Tryz.f5 false true false false) := by
  obtain ⟨places, hx⟩ := reads os enc
  refine returnsInHanded_of_row (C := Tryz.checked) (s := OpenSpec.ofChange Rows.historyReadsSpec) own started (by kernel_rfl) Tryz.func5
    (witness_row_at (enc := enc) (C := Tryz.checked) false (laidWorld os) #[.slice none 0 0, .string ⟨#[]⟩] rfl (by kernel_rfl) (by kernel_rfl) (by kernel_rfl)
      (OpenSpec.preRow_of_cond 8 hx (by kernel_rfl) (fun k hk => by cases hk) (by kernel_rfl) (laid_met os))) ?_
  intro W base args ds gs before hval0 hW _ _ hsz0 hL hOpen _
  have hsz : (DataW.weightsEach Tryz.prog (Tryz.f5.params.toList ++ Rows.historyReadsSpec.plain.varTypes Tryz.prog) (ds ++ gs)).all (· ≤ reachBytes) = true := hsz0
  have hval : ∀ (j : Nat) t v, Tryz.f5.params[j]? = some t → args[j]? = some v → Value.okWide Tryz.prog W .any base t v := hval0
  have hW' := hW
  obtain ⟨p, q, hA0, hV, rfl, hfz, hnd⟩ := hW
  have hA : DataW.TrodAll enc Tryz.prog W 0 (fun _ => true) true Tryz.f5.params.toList args.toList ds p := hA0
  rw [Tryz.params5] at hA hval hsz
  clear hA0 hval0
  obtain ⟨v0, vs0, d0, ds0, p0, q0, e0, rfl, rfl, h0, k0⟩ := trodAll_cons hA
  obtain ⟨v1, vs1, d1, ds1, p1, q1, rfl, rfl, rfl, h1, k1⟩ := trodAll_cons k0
  obtain ⟨rfl, rfl, rfl⟩ := trodAll_nil k1
  have e0' : args = #[v0, v1] := by cases args; simp_all
  subst e0'
  obtain ⟨rfl, rfl⟩ := trodVars_none hV
  obtain ⟨l, r0, hlen, hsb⟩ := objs_arg (okWide_slice Tryz.underlying38 (hval 0 38 v0 rfl rfl)) h0 (wt_arg hsz (j := 0) rfl rfl)
  obtain ⟨s, rfl, hs⟩ := str_arg (okWide_string Tryz.underlying9 (hval 1 9 v1 rfl rfl)) h1 (wt_arg hsz (j := 1) rfl rfl)
  refine ((historyReads_a l s (by omega) hsb).run (σW W) W [v0, .string s] (holds_all W) (RelPs.two r0 (Rel1.str _)) (gw_of_laid hL hOpen)).mono fun e' W' ⟨σ', u, he, _, _, hb, hr⟩ => ?_
  subst he
  have hu : u = .bool true := by cases (show Rel1 σ' u (.bool true) from hr); rfl
  subst hu
  exact ⟨_, rfl, law_post laidOut (by kernel_rfl) (by kernel_rfl) Tryz.underlying4 rfl hW' rfl hb⟩

theorem said : Rows.HistoryReadsSaid :=
  OpenClaim.holds_of_cond 5 Tryz.f5 rfl rfl rfl rfl rfl rfl rfl ⟨rfl, rfl, rfl, rfl, rfl⟩ rfl rfl rfl rfl rfl (by kernel_rfl) Tryz.func5 (by kernel_rfl)
    (of_decide_eq_true (by kernel_rfl)) (by unfold Func.isWrapper; first | (rw [if_pos (by decide +kernel)]; kernel_rfl) | (rw [if_neg (by decide +kernel)]; exact ⟨rfl, rfl⟩))
    (fun os started H enc _ F => by rw [OpenClaim.pre_eq_preRow]; exact lifted os started H enc F)
theorem plain (f : FuncId) (fn : Func) (hf : Tryz.pinned.checked.prog.funcNamed "mizzen/mizzenlaw18.HistoryReads" = some f) (hfn : Tryz.pinned.checked.prog.funcs[f]? = some fn) :
    true = Tryz.pinned.checked.prog.looks [] ∧ ∀ (j : Nat) t, fn.params[j]? = some t → Tryz.pinned.checked.prog.wantsStandIn t = false := by
  obtain rfl : f = 5 := Option.some.inj ((show Tryz.prog.funcNamed "mizzen/mizzenlaw18.HistoryReads" = some 5 by kernel_rfl).symm.trans hf) |>.symm
  obtain rfl : fn = Tryz.f5 := (Option.some.inj (Tryz.func5.symm.trans hfn)).symm
  refine ⟨by kernel_rfl, fun j t ht => ?_⟩
  rw [Tryz.params5] at ht
  have ht' := Array.mem_of_getElem? ht
  have key : ([38, 9].all fun t => !Tryz.prog.wantsStandIn t) = true := by kernel_rfl
  have hm : t ∈ [38, 9] := by simpa using ht'
  have h2 := List.all_eq_true.1 key t hm
  have h3 : Tryz.prog.wantsStandIn t = false := by simpa using h2
  exact h3
theorem historyReads_card : Rows.HistoryReadsCardSaid :=
  Claim7.holds_tied_plain_at .later [] _ _ _ _ said (fun _ h => by cases h) (by kernel_rfl) (fun _ h => by cases h) historyReads_row_tie rfl ⟨rfl, rfl⟩ (by kernel_rfl) rfl plain (by kernel_rfl)
#print axioms historyReads_card
end Go.Proofs.YtgidajjjpeboeaaGreatDoor
