/-
  Proved: ClusterFails returns true for every input, with the listed package variables tied to the program's text. Without further conditions.
-/
import Derived.Test.YtdncaodccgfniaaDoorS37
import Derived.Test.YtdncaodccgfniaaDoorRows
import Derived.Lib.LaidU8
import Derived.Shelf.Vars
import Derived.Test.YtdncaodccgfniaaDoorCards
import Derived.Test.YtdncaodccgfniaaDoorTie
import Derived.OpenShut
import Derived.Deep.DeepHandedRow
import Derived.Deep.DeepWitnessRowRef
namespace Go.Proofs.YtdncaodccgfniaaDoor
open Go.RowKit Go.Lib
theorem gl_mapM_len {α β : Type} {f : α → Option β} : ∀ {l : List α} {r : List β}, l.mapM f = some r → r.length = l.length
  | [], r, h => by simp at h; subst h; rfl
  | x :: l, r, h => by
    simp only [List.mapM_cons, Option.bind_eq_bind, Option.bind_eq_some_iff, Option.pure_def, Option.some.injEq] at h
    obtain ⟨b, _, bs, h2, rfl⟩ := h
    simp [gl_mapM_len h2]
def litV : DataW Unit → Value
  | .lit (.int k z) => .int k z
  | .lit (.string l) => .string ⟨l.toArray⟩
  | _ => undef
theorem gl_arr {P : Program} {w : World} {n : String} {g : Nat} {t e : TypeId} {len fuel : Nat} {ds : List (DataW Unit)} {p : List MemPlace} {cs : Array Value} (hg : P.globalNamed n = some g) (hu : P.underlying t = some (.array len e))
    (he : (match P.underlying e with | some (.int _) => true | some .string => true | _ => false) = true) (hc : P.cellsOf e = 1) (hct : P.cellsOf t = len) (hv : w.var? P n = some cs) (h : DataW.trod (fun _ => ()) P w 0 (fun _ => true) false fuel t cs.toList = some (.agg ds, p)) :
    ∃ ty fr, w.heap[g]? = some (.cells (ds.map litV).toArray ty fr) := by
  have key : cs = (ds.map litV).toArray := by
    cases fuel with
    | zero => simp [DataW.trod] at h
    | succ fuel =>
      simp only [DataW.trod, hu, hc] at h
      split at h
      · rename_i hl
        obtain ⟨xs, hm, hx⟩ := Option.map_eq_some_iff.1 h
        have hds : xs.map (·.1) = ds := by
          have := congrArg Prod.fst hx
          simpa using this
        have hxl : xs.length = len := by have := gl_mapM_len hm; simpa using this
        refine Array.toList_inj.1 ?_
        apply List.ext_getElem?
        intro i
        by_cases hi : i < len
        · obtain ⟨b, hb, hf⟩ := mapM_at hm i i (by simp [hi])
          have hi2 : i < cs.toList.length := by rw [hl]; omega
          have e1 : (cs.toList.drop (i * 1)).take 1 = [cs.toList[i]] := by
            rw [Nat.mul_one, List.drop_eq_getElem_cons hi2]; rfl
          rw [e1] at hf
          have hdi : ds[i]? = some b.1 := by rw [← hds]; simp [hb]
          have hlit : litV b.1 = cs.toList[i] := by
            cases hue : P.underlying e with
            | none => rw [hue] at he; cases he
            | some u =>
              rw [hue] at he
              cases u <;> first | cases he | skip
              · obtain ⟨n', k1, k2, _⟩ := DataW.trod_int hue hf
                have k3 := (List.cons.inj k1).1
                rw [k3]
                cases k2
                rfl
              · obtain ⟨s, k1, k2, _⟩ := DataW.trod_string hue hf
                have k3 := (List.cons.inj k1).1
                rw [k3]
                cases k2
                simp [litV]
          simp only [List.getElem?_map, hdi, Option.map_some, hlit, List.getElem?_eq_getElem hi2]
        · have h2 : ds.length = len := by rw [← hds]; simp [hxl]
          rw [List.getElem?_eq_none (by omega), List.getElem?_eq_none (by simp; omega)]
      · cases h
  rw [← key]
  simp only [World.var?, hg, Option.bind_some] at hv
  split at hv
  · rename_i c t' fr hh
    cases hv
    exact ⟨t', fr, hh⟩
  · cases hv
theorem gl_ifc {P : Program} {w : World} {n : String} {g : Nat} {t : TypeId} {ms : Array (String × TypeId)} {fuel : Nat} {d : DataW Unit} {p : List MemPlace} {cs : Array Value} (hg : P.globalNamed n = some g) (hu : P.underlying t = some (.interface ms))
    (hv : w.var? P n = some cs) (h : DataW.trod (fun _ => ()) P w 0 (fun _ => true) false fuel t cs.toList = some (d, p)) :
    ∃ ev ty fr, w.heap[g]? = some (.cells #[ev] ty fr) ∧ (ev = .nilIface ∨ ∃ te pe, ev = .iface te pe) := by
  have key : ∃ ev, cs = #[ev] ∧ (ev = .nilIface ∨ ∃ te pe, ev = .iface te pe) := by
    obtain ⟨l⟩ := cs
    cases fuel with
    | zero => simp [DataW.trod] at h
    | succ fuel =>
      simp only [DataW.trod, hu] at h
      split at h
      all_goals first
        | exact ⟨_, by simp_all; rfl, .inl rfl⟩
        | exact ⟨_, by simp_all; rfl, .inr ⟨_, _, rfl⟩⟩
        | (simp_all; done)
  obtain ⟨ev, rfl, hev⟩ := key
  simp only [World.var?, hg, Option.bind_some] at hv
  split at hv
  · rename_i c t' fr hh
    cases hv
    exact ⟨ev, t', fr, hh, hev⟩
  · cases hv
theorem gw_0 {W : World} (h : laidMet Tryd.prog Rows.clusterFailsRow.laid W) : ∃ ty fr, W.heap[0]? = some (.cells gl_0.toArray ty fr) := by
  have h1 : VarReads Tryd.prog W "mizzen/object.order" Rows.laid_mizzen_object_order := laidMet.reads h (by simp [Rows.clusterFailsRow])
  obtain ⟨g, t, cs, fuel, p, e1, e2, e3, e4⟩ := h1
  obtain rfl := Option.some.inj ((show Tryd.prog.globalNamed "mizzen/object.order" = some 0 by kernel_rfl).symm.trans e1)
  obtain rfl := Option.some.inj ((show (Tryd.prog.globals[0]?).map (·.type) = some 113 by kernel_rfl).symm.trans e2)
  exact gl_arr (show Tryd.prog.globalNamed "mizzen/object.order" = some 0 by kernel_rfl) Tryd.underlying113 (by kernel_rfl) (by kernel_rfl) (by kernel_rfl) e3 e4
theorem gz_1 {W : World} (h : W.ShapedOpen Tryd.prog) : ∃ m, W.cell? ⟨1, 0, none⟩ = some (.int .i64 m) := cell_of_shapedOpen_int h (of_decide_eq_true (by kernel_rfl)) (show _ = some (#[.int .i64 0], 3) by kernel_rfl) rfl (by kernel_rfl) (by kernel_rfl) (by kernel_rfl)
theorem gw_of_laid {W : World} (h : laidMet Tryd.prog Rows.clusterFailsRow.laid W) (hS : W.ShapedOpen Tryd.prog) : GW W := by
  refine ⟨fun x hx => ?_, fun x hx => ?_, fun x hx => ?_⟩
  · simp only [globL, List.mem_cons, List.not_mem_nil, or_false] at hx
    rcases hx with rfl
    · exact gw_0 h
  · simp [globI] at hx
  · simp only [globZ, List.mem_cons, List.not_mem_nil, or_false] at hx
    rcases hx with rfl
    · exact gz_1 hS
end Go.Proofs.YtdncaodccgfniaaDoor
namespace Go.Proofs.YtdncaodccgfniaaDoor
set_option linter.unusedSimpArgs false
set_option linter.unusedVariables false
open Go.ChangeShapes Go.WideShapes Go.ChangeAt Go.RowKit Go.Deep

noncomputable def laidWorld (os : Os) : World := { World.holding Tryd.prog os ⟨#[], #[], []⟩ with heap := setG (World.holding Tryd.prog os ⟨#[], #[], []⟩).heap gi_order gv_order }
theorem cellsU8 : Tryd.prog.cellsOf 5 = 1 := by kernel_rfl
theorem u8s_arg {H : Type} {enc : TypeId × Value → H} {w : World} {base : Nat} {spare : Nat → Bool} {held : Bool} {v : Value} {d : DataW H} {p : List MemPlace} (hv : ∃ a n c, v = .slice a n c) (h : DataW.Trod enc Tryd.prog w base spare held 22 v d p) (hw : WtOk Tryd.prog 22 d) :
    ∃ l : List Nat, Rel1 (σW w) v (.lst .any 1 (rowsW l)) := by
  obtain ⟨a, n, c, rfl⟩ := hv
  obtain ⟨fuel, hf⟩ := h
  obtain ⟨l, hl, _⟩ := sl_of_trodW (R := fun cs (n : Nat) => cs = [.int .u8 n] ∧ n < 256) (x := (d, p)) Tryd.underlying22 cellsU8 (by decide) (v := .slice a n c) (fuel := fuel) (by simpa [Value.cells] using hf) hw (fun n cs y _ h hw => by
    obtain ⟨k, e, _, wf⟩ := DataW.trod_int Tryd.underlying5 h
    have hk : 0 ≤ k ∧ k ≤ 255 := by simpa [Lit.wf, IntKind.min, IntKind.max, IntKind.signed, IntKind.bits] using wf
    obtain ⟨m, rfl⟩ := Int.eq_ofNat_of_zero_le hk.1
    exact ⟨m, e, by omega⟩)
  exact ⟨l, rel_of_sl hl (fun n => [.int .u8 n]) (fun cs s hcs => by obtain ⟨rfl, _⟩ := hcs; exact .cons (.int _ _) .nil)⟩

theorem laid_met (os : Os) : laidMet Tryd.prog Rows.clusterFailsRow.laid ((laidWorld os).forCall (fun _ _ => 0) ⟨#[], #[.slice none 0 0, .int .u8 0], []⟩).memory :=
  laidMet_of_run' 8 (by kernel_rfl) (by kernel_rfl)
theorem reads (os : Os) {H : Type} (enc : TypeId × Value → H) : ∃ places, DataW.whole enc Tryd.prog ((laidWorld os).forCall (fun _ _ => 0) ⟨#[], #[.slice none 0 0, .int .u8 0], []⟩).memory Tryd.f3.params.toList Rows.clusterFailsSpec.vars false (#[.slice none 0 0, .int .u8 0] : Array Value).toList 8 = some ([.nil, .lit (.int .u8 0)], [], places) :=
  ⟨[], by kernel_rfl⟩
set_option maxRecDepth 100000 in
theorem lifted (os : Os) (started : os.Started) (H : Type) (enc : TypeId × Value → H) (F : Stop.Interp) :
    ReturnsInHanded {} Tryd.checked os 3 .any ((OpenSpec.ofChange Rows.clusterFailsSpec).preRow enc Tryd.prog Tryd.f3 Rows.clusterFailsRow.domain false Rows.clusterFailsRow.laid) (((OpenSpec.ofChange Rows.clusterFailsSpec).at F).post enc Tryd.prog Tryd.f3 false true false false) := by
  obtain ⟨places, hx⟩ := reads os enc
  refine returnsInHanded_of_row (C := Tryd.checked) (s := OpenSpec.ofChange Rows.clusterFailsSpec) own started (by kernel_rfl) Tryd.func3
    (witness_row_at (enc := enc) (C := Tryd.checked) false (laidWorld os) #[.slice none 0 0, .int .u8 0] rfl (by kernel_rfl) (by kernel_rfl) (by kernel_rfl)
      (OpenSpec.preRow_of_cond 8 hx (by kernel_rfl) (fun k hk => by cases hk) (by kernel_rfl) (laid_met os))) ?_
  intro W base args ds gs before hval0 hW _ _ hsz0 hL hOpen _
  have hsz : (DataW.weightsEach Tryd.prog (Tryd.f3.params.toList ++ Rows.clusterFailsSpec.plain.varTypes Tryd.prog) (ds ++ gs)).all (· ≤ reachBytes) = true := hsz0
  have hval : ∀ (j : Nat) t v, Tryd.f3.params[j]? = some t → args[j]? = some v → Value.okWide Tryd.prog W .any base t v := hval0
  have hW' := hW
  obtain ⟨p, q, hA0, hV, rfl, hfz, hnd⟩ := hW
  have hA : DataW.TrodAll enc Tryd.prog W 0 (fun _ => true) true Tryd.f3.params.toList args.toList ds p := hA0
  rw [Tryd.params3] at hA hval hsz
  clear hA0 hval0
  obtain ⟨v0, vs0, d0, ds0, p0, q0, e0, rfl, rfl, h0, k0⟩ := trodAll_cons hA
  obtain ⟨v1, vs1, d1, ds1, p1, q1, rfl, rfl, rfl, h1, k1⟩ := trodAll_cons k0
  obtain ⟨rfl, rfl, rfl⟩ := trodAll_nil k1
  have e0' : args = #[v0, v1] := by cases args; simp_all
  subst e0'
  obtain ⟨rfl, rfl⟩ := trodVars_none hV
  obtain ⟨n, rfl, rfl, rfl, wn⟩ := open_int Tryd.underlying5 (hval 1 5 v1 rfl rfl) h1
  have hk : 0 ≤ n ∧ n ≤ 255 := by simpa [Lit.wf, IntKind.min, IntKind.max, IntKind.signed, IntKind.bits] using wn
  obtain ⟨m, rfl⟩ := Int.eq_ofNat_of_zero_le hk.1
  obtain ⟨l, r0⟩ := u8s_arg (okWide_slice Tryd.underlying22 (hval 0 22 v0 rfl rfl)) h0 (wt_arg hsz (j := 0) rfl rfl)
  refine ((clusterFails_a l m (by omega)).run (σW W) W [v0, .int .u8 m] (holds_all W) (RelPs.two r0 (Rel1.int _ _)) (gw_of_laid hL hOpen)).mono fun e' W' ⟨σ', u, he, _, _, hb, hr⟩ => ?_
  subst he
  have hu : u = .bool true := by cases (show Rel1 σ' u (.bool true) from hr); rfl
  subst hu
  exact ⟨_, rfl, law_post laidOut (by kernel_rfl) (by kernel_rfl) Tryd.underlying4 rfl hW' rfl hb⟩

theorem said : Rows.ClusterFailsSaid :=
  OpenClaim.holds_of_cond 3 Tryd.f3 rfl rfl rfl rfl rfl rfl rfl ⟨rfl, rfl, rfl, rfl, rfl⟩ rfl rfl rfl rfl rfl (by kernel_rfl) Tryd.func3 (by kernel_rfl)
    (of_decide_eq_true (by kernel_rfl)) (by unfold Func.isWrapper; first | (rw [if_pos (by decide +kernel)]; kernel_rfl) | (rw [if_neg (by decide +kernel)]; exact ⟨rfl, rfl⟩))
    (fun os started H enc _ F => by rw [OpenClaim.pre_eq_preRow]; exact lifted os started H enc F)
theorem plain (f : FuncId) (fn : Func) (hf : Tryd.pinned.checked.prog.funcNamed "mizzen/mizzenlaw16.ClusterFails" = some f) (hfn : Tryd.pinned.checked.prog.funcs[f]? = some fn) :
    false = Tryd.pinned.checked.prog.looks [] ∧ ∀ (j : Nat) t, fn.params[j]? = some t → Tryd.pinned.checked.prog.wantsStandIn t = false := by
  obtain rfl : f = 3 := Option.some.inj ((show Tryd.prog.funcNamed "mizzen/mizzenlaw16.ClusterFails" = some 3 by kernel_rfl).symm.trans hf) |>.symm
  obtain rfl : fn = Tryd.f3 := (Option.some.inj (Tryd.func3.symm.trans hfn)).symm
  refine ⟨by kernel_rfl, fun j t ht => ?_⟩
  rw [Tryd.params3] at ht
  have ht' := Array.mem_of_getElem? ht
  have key : ([22, 5].all fun t => !Tryd.prog.wantsStandIn t) = true := by kernel_rfl
  have hm : t ∈ [22, 5] := by simpa using ht'
  have h2 := List.all_eq_true.1 key t hm
  have h3 : Tryd.prog.wantsStandIn t = false := by simpa using h2
  exact h3
theorem clusterFails_card : Rows.ClusterFailsCardSaid :=
  Claim7.holds_tied_plain_at .later [] _ _ _ _ said (fun _ h => by cases h) (by kernel_rfl) (fun _ h => by cases h) clusterFails_row_tie rfl ⟨rfl, rfl⟩ (by kernel_rfl) rfl plain (by kernel_rfl)
#print axioms clusterFails_card
end Go.Proofs.YtdncaodccgfniaaDoor
