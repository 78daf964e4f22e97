/-
  Proved: ClusterWrites returns true for every input, with the listed package variables tied to the program's text. Without further conditions.
-/
import Derived.Test.YtgidajjjpeboeaaGreatDoorS48
import Derived.Test.YtgidajjjpeboeaaGreatDoorRows
import Derived.Lib.LaidU8
import Derived.Shelf.Vars
import Derived.Test.YtgidajjjpeboeaaGreatDoorCards
import Derived.Test.YtgidajjjpeboeaaGreatDoorTie
import Derived.OpenShut
import Derived.Deep.DeepHandedRow
import Derived.Deep.DeepWitnessRowRef
namespace Go.Proofs.YtgidajjjpeboeaaGreatDoor
open Go.RowKit Go.Lib
theorem gl_mapM_len {α β : Type} {f : α → Option β} : ∀ {l : List α} {r : List β}, l.mapM f = some r → r.length = l.length
  | [], r, h => by simp at h; subst h; rfl
  | x :: l, r, h => by
    simp only [List.mapM_cons, Option.bind_eq_bind, Option.bind_eq_some_iff, Option.pure_def, Option.some.injEq] at h
    obtain ⟨b, _, bs, h2, rfl⟩ := h
    simp [gl_mapM_len h2]
def litV : DataW Unit → Value
  | .lit (.int k z) => .int k z
  | .lit (.string l) => .string ⟨l.toArray⟩
  | _ => undef
theorem gl_arr {P : Program} {w : World} {n : String} {g : Nat} {t e : TypeId} {len fuel : Nat} {ds : List (DataW Unit)} {p : List MemPlace} {cs : Array Value} (hg : P.globalNamed n = some g) (hu : P.underlying t = some (.array len e))
    (he : (match P.underlying e with | some (.int _) => true | some .string => true | _ => false) = true) (hc : P.cellsOf e = 1) (hct : P.cellsOf t = len) (hv : w.var? P n = some cs) (h : DataW.trod (fun _ => ()) P w 0 (fun _ => true) false fuel t cs.toList = some (.agg ds, p)) :
    ∃ ty fr, w.heap[g]? = some (.cells (ds.map litV).toArray ty fr) := by
  have key : cs = (ds.map litV).toArray := by
    cases fuel with
    | zero => simp [DataW.trod] at h
    | succ fuel =>
      simp only [DataW.trod, hu, hc] at h
      split at h
      · rename_i hl
        obtain ⟨xs, hm, hx⟩ := Option.map_eq_some_iff.1 h
        have hds : xs.map (·.1) = ds := by
          have := congrArg Prod.fst hx
          simpa using this
        have hxl : xs.length = len := by have := gl_mapM_len hm; simpa using this
        refine Array.toList_inj.1 ?_
        apply List.ext_getElem?
        intro i
        by_cases hi : i < len
        · obtain ⟨b, hb, hf⟩ := mapM_at hm i i (by simp [hi])
          have hi2 : i < cs.toList.length := by rw [hl]; omega
          have e1 : (cs.toList.drop (i * 1)).take 1 = [cs.toList[i]] := by
            rw [Nat.mul_one, List.drop_eq_getElem_cons hi2]; rfl
          rw [e1] at hf
          have hdi : ds[i]? = some b.1 := by rw [← hds]; simp [hb]
          have hlit : litV b.1 = cs.toList[i] := by
            cases hue : P.underlying e with
            | none => rw [hue] at he; cases he
            | some u =>
              rw [hue] at he
              cases u <;> first | cases he | skip
              · obtain ⟨n', k1, k2, _⟩ := DataW.trod_int hue hf
                have k3 := (List.cons.inj k1).1
                rw [k3]
                cases k2
                rfl
              · obtain ⟨s, k1, k2, _⟩ := DataW.trod_string hue hf
                have k3 := (List.cons.inj k1).1
                rw [k3]
                cases k2
                simp [litV]
          simp only [List.getElem?_map, hdi, Option.map_some, hlit, List.getElem?_eq_getElem hi2]
        · have h2 : ds.length = len := by rw [← hds]; simp [hxl]
          rw [List.getElem?_eq_none (by omega), List.getElem?_eq_none (by simp; omega)]
      · cases h
  rw [← key]
  simp only [World.var?, hg, Option.bind_some] at hv
  split at hv
  · rename_i c t' fr hh
    cases hv
    exact ⟨t', fr, hh⟩
  · cases hv
theorem gl_ifc {P : Program} {w : World} {n : String} {g : Nat} {t : TypeId} {ms : Array (String × TypeId)} {fuel : Nat} {d : DataW Unit} {p : List MemPlace} {cs : Array Value} (hg : P.globalNamed n = some g) (hu : P.underlying t = some (.interface ms))
    (hv : w.var? P n = some cs) (h : DataW.trod (fun _ => ()) P w 0 (fun _ => true) false fuel t cs.toList = some (d, p)) :
    ∃ ev ty fr, w.heap[g]? = some (.cells #[ev] ty fr) ∧ (ev = .nilIface ∨ ∃ te pe, ev = .iface te pe) := by
  have key : ∃ ev, cs = #[ev] ∧ (ev = .nilIface ∨ ∃ te pe, ev = .iface te pe) := by
    obtain ⟨l⟩ := cs
    cases fuel with
    | zero => simp [DataW.trod] at h
    | succ fuel =>
      simp only [DataW.trod, hu] at h
      split at h
      all_goals first
        | exact ⟨_, by simp_all; rfl, .inl rfl⟩
        | exact ⟨_, by simp_all; rfl, .inr ⟨_, _, rfl⟩⟩
        | (simp_all; done)
  obtain ⟨ev, rfl, hev⟩ := key
  simp only [World.var?, hg, Option.bind_some] at hv
  split at hv
  · rename_i c t' fr hh
    cases hv
    exact ⟨ev, t', fr, hh, hev⟩
  · cases hv
theorem gw_0 {W : World} (h : laidMet Tryz.prog Rows.clusterWritesRow.laid W) : ∃ ty fr, W.heap[0]? = some (.cells gl_0.toArray ty fr) := by
  have h1 : VarReads Tryz.prog W "mizzen/object.order" Rows.laid_mizzen_object_order := laidMet.reads h (by simp [Rows.clusterWritesRow])
  obtain ⟨g, t, cs, fuel, p, e1, e2, e3, e4⟩ := h1
  obtain rfl := Option.some.inj ((show Tryz.prog.globalNamed "mizzen/object.order" = some 0 by kernel_rfl).symm.trans e1)
  obtain rfl := Option.some.inj ((show (Tryz.prog.globals[0]?).map (·.type) = some 179 by kernel_rfl).symm.trans e2)
  exact gl_arr (show Tryz.prog.globalNamed "mizzen/object.order" = some 0 by kernel_rfl) Tryz.underlying179 (by kernel_rfl) (by kernel_rfl) (by kernel_rfl) e3 e4
theorem gz_1 {W : World} (h : W.ShapedOpen Tryz.prog) : ∃ m, W.cell? ⟨1, 0, none⟩ = some (.int .i64 m) := cell_of_shapedOpen_int h (of_decide_eq_true (by kernel_rfl)) (show _ = some (#[.int .i64 0], 3) by kernel_rfl) rfl (by kernel_rfl) (by kernel_rfl) (by kernel_rfl)
theorem gw_of_laid {W : World} (h : laidMet Tryz.prog Rows.clusterWritesRow.laid W) (hS : W.ShapedOpen Tryz.prog) : GW W := by
  refine ⟨fun x hx => ?_, fun x hx => ?_, fun x hx => ?_⟩
  · simp only [globL, List.mem_cons, List.not_mem_nil, or_false] at hx
    rcases hx with rfl
    · exact gw_0 h
  · simp [globI] at hx
  · simp only [globZ, List.mem_cons, List.not_mem_nil, or_false] at hx
    rcases hx with rfl
    · exact gz_1 hS
end Go.Proofs.YtgidajjjpeboeaaGreatDoor
namespace Go.Proofs.YtgidajjjpeboeaaGreatDoor
set_option linter.unusedSimpArgs false
set_option linter.unusedVariables false
open Go.ChangeShapes Go.WideShapes Go.ChangeAt Go.RowKit Go.Deep

noncomputable def laidWorld (os : Os) : World := { World.holding Tryz.prog os ⟨#[], #[], []⟩ with heap := setG (World.holding Tryz.prog os ⟨#[], #[], []⟩).heap gi_order gv_order }
theorem okWide_structR {P : Program} {w : World} {r : Reach} {base : Nat} {t : TypeId} {v : Value} {fs : Array Field} (ht : P.underlying t = some (.struct fs)) (h : Value.okWide P w r base t v) : ∃ cs : Array Value, v = .agg cs := by
  simp only [Value.okWide, ht] at h
  obtain ⟨cs, h1, _⟩ := h
  exact ⟨cs, h1⟩
theorem cellsOp : Tryz.prog.cellsOf 30 = 11 := by kernel_rfl
theorem bytesOp : Tryz.prog.bytesOf 30 = 152 := by kernel_rfl
theorem cellsInt : Tryz.prog.cellsOf 3 = 1 := by kernel_rfl
theorem list11 {α : Type} {l : List α} (h : l.length = 11) : ∃ a b c d e f g i j k m, l = [a, b, c, d, e, f, g, i, j, k, m] := by
  rcases l with _ | ⟨a, _ | ⟨b, l⟩⟩ <;> simp at h
  obtain ⟨c, d, e, f, g, i, j, k, m, rfl⟩ := list9 h
  exact ⟨_, _, _, _, _, _, _, _, _, _, _, rfl⟩
theorem op_of_trod {H : Type} {enc : TypeId × Value → H} {w : World} {base : Nat} {spare : Nat → Bool} {held : Bool} {n : Nat} {cs : List Value} {y : DataW H × List MemPlace} (h : DataW.trod enc Tryz.prog w base spare held n 30 cs = some y) (hw : WtOk Tryz.prog 30 y.1) :
    ∃ o : OpR, RelL (σW w) cs (opC o.kd o.i o.v o.n) ∧ o.ok := by
  obtain ⟨xs, m, hm, hy, hl, hxl, hf⟩ := DataW.trod_struct Tryz.underlying30 h
  rw [cellsOp] at hl
  obtain ⟨c0, c1, c2, c3, c4, c5, c6, c7, c8, c9, c10, rfl⟩ := list11 hl
  obtain ⟨x0, x1, x2, x3, rfl⟩ : ∃ a b c d, xs = [a, b, c, d] := by
    have hxl : xs.length = 4 := hxl
    rcases xs with _ | ⟨a, _ | ⟨b, _ | ⟨c, _ | ⟨d, _ | ⟨e, l⟩⟩⟩⟩⟩ <;> simp at hxl
    exact ⟨a, b, c, d, rfl⟩
  rw [hy] at hw
  have f0 : DataW.trod enc Tryz.prog w base spare held m 3 (List.take (Tryz.prog.cellsOf 3) (List.drop 0 [c0, c1, c2, c3, c4, c5, c6, c7, c8, c9, c10])) = some x0 := hf 0 _ rfl
  have f1 : DataW.trod enc Tryz.prog w base spare held m 24 (List.take (Tryz.prog.cellsOf 24) (List.drop 1 [c0, c1, c2, c3, c4, c5, c6, c7, c8, c9, c10])) = some x1 := hf 1 _ rfl
  have f2 : DataW.trod enc Tryz.prog w base spare held m 28 (List.take (Tryz.prog.cellsOf 28) (List.drop 4 [c0, c1, c2, c3, c4, c5, c6, c7, c8, c9, c10])) = some x2 := hf 2 _ rfl
  have f3 : DataW.trod enc Tryz.prog w base spare held m 3 (List.take (Tryz.prog.cellsOf 3) (List.drop 10 [c0, c1, c2, c3, c4, c5, c6, c7, c8, c9, c10])) = some x3 := hf 3 _ rfl
  have w1 : WtOk Tryz.prog 24 x1.1 := WtOk.part Tryz.underlying30 hw (j := 1) rfl rfl
  have w2 : WtOk Tryz.prog 28 x2.1 := WtOk.part Tryz.underlying30 hw (j := 2) rfl rfl
  simp only [cellsInt, cellsID, cellsTV, List.drop_succ_cons, List.drop_zero, List.take_succ_cons, List.take_zero] at f0 f1 f2 f3
  obtain ⟨a, e0, _, wf0⟩ := DataW.trod_int Tryz.underlying3 f0
  obtain ⟨b, e3, _, wf3⟩ := DataW.trod_int Tryz.underlying3 f3
  obtain ⟨k, s, nm, e, z0, z1, z2⟩ := id_of_trod f1 w1
  injection e0 with e0; injection e3 with e3
  injection e with e4 e; injection e with e5 e; injection e with e6 e
  subst e0 e3 e4 e5 e6
  obtain ⟨x, hx, hxs⟩ := val_of_trod _ _ _ f2 w2
  refine ⟨⟨a, ⟨k, s, nm⟩, x, b⟩, ?_, ⟨z0, z1, z2⟩, hxs, ?_⟩
  · rw [cellsV_eq] at hx
    exact .cons (.int _ _) (.cons (.str _) (.cons (.str _) (.cons (.str _) (hx.append (.cons (.int _ _) .nil)))))
  · have : -9223372036854775808 ≤ b ∧ b ≤ 9223372036854775807 := by simpa [Lit.wf, IntKind.min, IntKind.max, IntKind.signed, IntKind.bits] using wf3
    exact this
theorem ops_arg {H : Type} {enc : TypeId × Value → H} {w : World} {base : Nat} {spare : Nat → Bool} {held : Bool} {v : Value} {d : DataW H} {p : List MemPlace} (hv : ∃ a n c, v = .slice a n c) (h : DataW.Trod enc Tryz.prog w base spare held 22 v d p) (hw : WtOk Tryz.prog 22 d) :
    ∃ l : List OpR, Rel1 (σW w) v (.lst .any 11 (rowsP l)) ∧ l.length ≤ 1000000000000 ∧ ∀ o ∈ l, o.ok := by
  obtain ⟨a, n, c, rfl⟩ := hv
  obtain ⟨fuel, hf⟩ := h
  obtain ⟨l, hl, hb⟩ := sl_of_trodW (R := fun cs (o : OpR) => RelL (σW w) cs (opC o.kd o.i o.v o.n) ∧ o.ok) (x := (d, p)) Tryz.underlying22 cellsOp (by decide) (v := .slice a n c) (fuel := fuel) (by simpa [Value.cells] using hf) hw (fun n cs y _ h hw => by
    obtain ⟨o, h1, h2⟩ := op_of_trod h hw
    exact ⟨o, h1, h2⟩)
  refine ⟨l, rel_of_sl hl (fun o => opC o.kd o.i o.v o.n) fun cs o h => h.1, ?_, fun o ho => ?_⟩
  · rw [bytesOp] at hb
    have h3 : reachBytes = 140737488351232 := rfl
    omega
  · obtain ⟨cs, h⟩ := sl_all hl ho
    exact h.2
theorem op_arg {H : Type} {enc : TypeId × Value → H} {W : World} {base : Nat} {spare : Nat → Bool} {held : Bool} {v : Value} {d : DataW H} {p : List MemPlace} (hv : ∃ cs : Array Value, v = .agg cs) (h : DataW.Trod enc Tryz.prog W base spare held 30 v d p) (hw : WtOk Tryz.prog 30 d) :
    ∃ o : OpR, RelP (σW W) v (.agg (opC o.kd o.i o.v o.n)) ∧ o.ok := by
  obtain ⟨cs, rfl⟩ := hv
  obtain ⟨fuel, hf0⟩ := h
  obtain ⟨o, h1, h2⟩ := op_of_trod (y := (d, p)) hf0 hw
  exact ⟨o, ⟨_, by simp [Value.cells], h1⟩, h2⟩

theorem laid_met (os : Os) : laidMet Tryz.prog Rows.clusterWritesRow.laid ((laidWorld os).forCall (fun _ _ => 0) ⟨#[], #[.slice none 0 0, .agg #[.int .i64 0, .string ⟨#[]⟩, .string ⟨#[]⟩, .string ⟨#[]⟩, .int .i64 0, .bool false, .int .i64 0, .string ⟨#[]⟩, .slice none 0 0, .slice none 0 0, .int .i64 0]], []⟩).memory :=
  laidMet_of_run' 8 (by kernel_rfl) (by kernel_rfl)
theorem reads (os : Os) {H : Type} (enc : TypeId × Value → H) : ∃ places, DataW.whole enc Tryz.prog ((laidWorld os).forCall (fun _ _ => 0) ⟨#[], #[.slice none 0 0, .agg #[.int .i64 0, .string ⟨#[]⟩, .string ⟨#[]⟩, .string ⟨#[]⟩, .int .i64 0, .bool false, .int .i64 0, .string ⟨#[]⟩, .slice none 0 0, .slice none 0 0, .int .i64 0]], []⟩).memory Tryz.f3.params.toList Rows.clusterWritesSpec.vars false (#[.slice none 0 0, .agg #[.int .i64 0, .string ⟨#[]⟩, .string ⟨#[]⟩, .string ⟨#[]⟩, .int .i64 0, .bool false, .int .i64 0, .string ⟨#[]⟩, .slice none 0 0, .slice none 0 0, .int .i64 0]] : Array Value).toList 8 = some ([.nil, .agg [.lit (.int .i64 0), .agg [.lit (.string []), .lit (.string []), .lit (.string [])], .agg [.lit (.int .i64 0), .lit (.bool false), .lit (.int .i64 0), .lit (.string []), .nil, .nil], .lit (.int .i64 0)]], [], places) :=
  ⟨[], by kernel_rfl⟩
set_option maxRecDepth 100000 in
theorem lifted (os : Os) (started : os.Started) (H : Type) (enc : TypeId × Value → H) (F : Stop.Interp) :
    ReturnsInHanded {} Tryz.checked os 3 .any ((OpenSpec.ofChange Rows.clusterWritesSpec).preRow enc Tryz.prog Tryz.f3 Rows.clusterWritesRow.domain false Rows.clusterWritesRow.laid) (((OpenSpec.ofChange Rows.clusterWritesSpec).at F).post enc Tryz.prog Tryz.f3 false true false false) := by
  obtain ⟨places, hx⟩ := reads os enc
  refine returnsInHanded_of_row (C := Tryz.checked) (s := OpenSpec.ofChange Rows.clusterWritesSpec) own started (by kernel_rfl) Tryz.func3
    (witness_row_at (enc := enc) (C := Tryz.checked) false (laidWorld os) #[.slice none 0 0, .agg #[.int .i64 0, .string ⟨#[]⟩, .string ⟨#[]⟩, .string ⟨#[]⟩, .int .i64 0, .bool false, .int .i64 0, .string ⟨#[]⟩, .slice none 0 0, .slice none 0 0, .int .i64 0]] rfl (by kernel_rfl) (by kernel_rfl) (by kernel_rfl)
      (OpenSpec.preRow_of_cond 8 hx (by kernel_rfl) (fun k hk => by cases hk) (by kernel_rfl) (laid_met os))) ?_
  intro W base args ds gs before hval0 hW _ _ hsz0 hL hOpen _
  have hsz : (DataW.weightsEach Tryz.prog (Tryz.f3.params.toList ++ Rows.clusterWritesSpec.plain.varTypes Tryz.prog) (ds ++ gs)).all (· ≤ reachBytes) = true := hsz0
  have hval : ∀ (j : Nat) t v, Tryz.f3.params[j]? = some t → args[j]? = some v → Value.okWide Tryz.prog W .any base t v := hval0
  have hW' := hW
  obtain ⟨p, q, hA0, hV, rfl, hfz, hnd⟩ := hW
  have hA : DataW.TrodAll enc Tryz.prog W 0 (fun _ => true) true Tryz.f3.params.toList args.toList ds p := hA0
  rw [Tryz.params3] at hA hval hsz
  clear hA0 hval0
  obtain ⟨v0, vs0, d0, ds0, p0, q0, e0, rfl, rfl, h0, k0⟩ := trodAll_cons hA
  obtain ⟨v1, vs1, d1, ds1, p1, q1, rfl, rfl, rfl, h1, k1⟩ := trodAll_cons k0
  obtain ⟨rfl, rfl, rfl⟩ := trodAll_nil k1
  have e0' : args = #[v0, v1] := by cases args; simp_all
  subst e0'
  obtain ⟨rfl, rfl⟩ := trodVars_none hV
  obtain ⟨l, r0, hlen, hops⟩ := ops_arg (okWide_slice Tryz.underlying22 (hval 0 22 v0 rfl rfl)) h0 (wt_arg hsz (j := 0) rfl rfl)
  obtain ⟨o, r1, hok⟩ := op_arg (okWide_structR Tryz.underlying30 (hval 1 30 v1 rfl rfl)) h1 (wt_arg hsz (j := 1) rfl rfl)
  refine ((clusterWrites_a l hops o.kd o.i hok.1 o.v hok.2.1 o.n hlen).run (σW W) W [v0, v1] (holds_all W) (RelPs.two r0 r1) (gw_of_laid hL hOpen)).mono fun e' W' ⟨σ', u, he, _, _, hb, hr⟩ => ?_
  subst he
  have hu : u = .bool true := by cases (show Rel1 σ' u (.bool true) from hr); rfl
  subst hu
  exact ⟨_, rfl, law_post laidOut (by kernel_rfl) (by kernel_rfl) Tryz.underlying4 rfl hW' rfl hb⟩

theorem said : Rows.ClusterWritesSaid :=
  OpenClaim.holds_of_cond 3 Tryz.f3 rfl rfl rfl rfl rfl rfl rfl ⟨rfl, rfl, rfl, rfl, rfl⟩ rfl rfl rfl rfl rfl (by kernel_rfl) Tryz.func3 (by kernel_rfl)
    (of_decide_eq_true (by kernel_rfl)) (by unfold Func.isWrapper; first | (rw [if_pos (by decide +kernel)]; kernel_rfl) | (rw [if_neg (by decide +kernel)]; exact ⟨rfl, rfl⟩))
    (fun os started H enc _ F => by rw [OpenClaim.pre_eq_preRow]; exact lifted os started H enc F)
theorem plain (f : FuncId) (fn : Func) (hf : Tryz.pinned.checked.prog.funcNamed "mizzen/mizzenlaw16.ClusterWrites" = some f) (hfn : Tryz.pinned.checked.prog.funcs[f]? = some fn) :
    true = Tryz.pinned.checked.prog.looks [] ∧ ∀ (j : Nat) t, fn.params[j]? = some t → Tryz.pinned.checked.prog.wantsStandIn t = false := by
  obtain rfl : f = 3 := Option.some.inj ((show Tryz.prog.funcNamed "mizzen/mizzenlaw16.ClusterWrites" = some 3 by kernel_rfl).symm.trans hf) |>.symm
  obtain rfl : fn = Tryz.f3 := (Option.some.inj (Tryz.func3.symm.trans hfn)).symm
  refine ⟨by kernel_rfl, fun j t ht => ?_⟩
  rw [Tryz.params3] at ht
  have ht' := Array.mem_of_getElem? ht
  have key : ([22, 30].all fun t => !Tryz.prog.wantsStandIn t) = true := by kernel_rfl
  have hm : t ∈ [22, 30] := by simpa using ht'
  have h2 := List.all_eq_true.1 key t hm
  have h3 : Tryz.prog.wantsStandIn t = false := by simpa using h2
  exact h3
theorem clusterWrites_card : Rows.ClusterWritesCardSaid :=
  Claim7.holds_tied_plain_at .later [] _ _ _ _ said (fun _ h => by cases h) (by kernel_rfl) (fun _ h => by cases h) clusterWrites_row_tie rfl ⟨rfl, rfl⟩ (by kernel_rfl) rfl plain (by kernel_rfl)
#print axioms clusterWrites_card
end Go.Proofs.YtgidajjjpeboeaaGreatDoor
