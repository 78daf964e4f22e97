/-
  What a row lists of the package variables, as cells.
-/
import Derived.Test.YtgekcnpfflhpkaaGreatDoorRows
import Derived.Test.YtgekcnpfflhpkaaGreatDoorGl
import Derived.Lib.LaidU8
import Derived.Shelf.Vars
namespace Go.Proofs.YtgekcnpfflhpkaaGreatDoor
open Go.RowKit Go.Lib
theorem gl_mapM_len {α β : Type} {f : α → Option β} : ∀ {l : List α} {r : List β}, l.mapM f = some r → r.length = l.length
  | [], r, h => by simp at h; subst h; rfl
  | x :: l, r, h => by
    simp only [List.mapM_cons, Option.bind_eq_bind, Option.bind_eq_some_iff, Option.pure_def, Option.some.injEq] at h
    obtain ⟨b, _, bs, h2, rfl⟩ := h
    simp [gl_mapM_len h2]
def litV : DataW Unit → Value
  | .lit (.int k z) => .int k z
  | .lit (.string l) => .string ⟨l.toArray⟩
  | _ => undef
theorem gl_arr {P : Program} {w : World} {n : String} {g : Nat} {t e : TypeId} {len fuel : Nat} {ds : List (DataW Unit)} {p : List MemPlace} {cs : Array Value} (hg : P.globalNamed n = some g) (hu : P.underlying t = some (.array len e))
    (he : (match P.underlying e with | some (.int _) => true | some .string => true | _ => false) = true) (hc : P.cellsOf e = 1) (hct : P.cellsOf t = len) (hv : w.var? P n = some cs) (h : DataW.trod (fun _ => ()) P w 0 (fun _ => true) false fuel t cs.toList = some (.agg ds, p)) :
    ∃ ty fr, w.heap[g]? = some (.cells (ds.map litV).toArray ty fr) := by
  have key : cs = (ds.map litV).toArray := by
    cases fuel with
    | zero => simp [DataW.trod] at h
    | succ fuel =>
      simp only [DataW.trod, hu, hc] at h
      split at h
      · rename_i hl
        obtain ⟨xs, hm, hx⟩ := Option.map_eq_some_iff.1 h
        have hds : xs.map (·.1) = ds := by
          have := congrArg Prod.fst hx
          simpa using this
        have hxl : xs.length = len := by have := gl_mapM_len hm; simpa using this
        refine Array.toList_inj.1 ?_
        apply List.ext_getElem?
        intro i
        by_cases hi : i < len
        · obtain ⟨b, hb, hf⟩ := mapM_at hm i i (by simp [hi])
          have hi2 : i < cs.toList.length := by rw [hl]; omega
          have e1 : (cs.toList.drop (i * 1)).take 1 = [cs.toList[i]] := by
            rw [Nat.mul_one, List.drop_eq_getElem_cons hi2]; rfl
          rw [e1] at hf
          have hdi : ds[i]? = some b.1 := by rw [← hds]; simp [hb]
          have hlit : litV b.1 = cs.toList[i] := by
            cases hue : P.underlying e with
            | none => rw [hue] at he; cases he
            | some u =>
              rw [hue] at he
              cases u <;> first | cases he | skip
              · obtain ⟨n', k1, k2, _⟩ := DataW.trod_int hue hf
                have k3 := (List.cons.inj k1).1
                rw [k3]
                cases k2
                rfl
              · obtain ⟨s, k1, k2, _⟩ := DataW.trod_string hue hf
                have k3 := (List.cons.inj k1).1
                rw [k3]
                cases k2
                simp [litV]
          simp only [List.getElem?_map, hdi, Option.map_some, hlit, List.getElem?_eq_getElem hi2]
        · have h2 : ds.length = len := by rw [← hds]; simp [hxl]
          rw [List.getElem?_eq_none (by omega), List.getElem?_eq_none (by simp; omega)]
      · cases h
  rw [← key]
  simp only [World.var?, hg, Option.bind_some] at hv
  split at hv
  · rename_i c t' fr hh
    cases hv
    exact ⟨t', fr, hh⟩
  · cases hv
theorem gl_ifc {P : Program} {w : World} {n : String} {g : Nat} {t : TypeId} {ms : Array (String × TypeId)} {fuel : Nat} {d : DataW Unit} {p : List MemPlace} {cs : Array Value} (hg : P.globalNamed n = some g) (hu : P.underlying t = some (.interface ms))
    (hv : w.var? P n = some cs) (h : DataW.trod (fun _ => ()) P w 0 (fun _ => true) false fuel t cs.toList = some (d, p)) :
    ∃ ev ty fr, w.heap[g]? = some (.cells #[ev] ty fr) ∧ (ev = .nilIface ∨ ∃ te pe, ev = .iface te pe) := by
  have key : ∃ ev, cs = #[ev] ∧ (ev = .nilIface ∨ ∃ te pe, ev = .iface te pe) := by
    obtain ⟨l⟩ := cs
    cases fuel with
    | zero => simp [DataW.trod] at h
    | succ fuel =>
      simp only [DataW.trod, hu] at h
      split at h
      all_goals first
        | exact ⟨_, by simp_all; rfl, .inl rfl⟩
        | exact ⟨_, by simp_all; rfl, .inr ⟨_, _, rfl⟩⟩
        | (simp_all; done)
  obtain ⟨ev, rfl, hev⟩ := key
  simp only [World.var?, hg, Option.bind_some] at hv
  split at hv
  · rename_i c t' fr hh
    cases hv
    exact ⟨ev, t', fr, hh, hev⟩
  · cases hv
theorem gw_4 {W : World} (h : laidMet Tryz.prog Rows.yamlNestsRow.laid W) : ∃ ty fr, W.heap[4]? = some (.cells gl_4.toArray ty fr) := by
  have h1 : VarReads Tryz.prog W "math/bits.deBruijn32tab" Rows.laid_math_bits_deBruijn32tab := laidMet.reads h (by simp [Rows.yamlNestsRow])
  obtain ⟨g, t, cs, fuel, p, e1, e2, e3, e4⟩ := h1
  obtain rfl := Option.some.inj ((show Tryz.prog.globalNamed "math/bits.deBruijn32tab" = some 4 by kernel_rfl).symm.trans e1)
  obtain rfl := Option.some.inj ((show (Tryz.prog.globals[4]?).map (·.type) = some 171 by kernel_rfl).symm.trans e2)
  exact gl_arr (show Tryz.prog.globalNamed "math/bits.deBruijn32tab" = some 4 by kernel_rfl) Tryz.underlying171 (by kernel_rfl) (by kernel_rfl) (by kernel_rfl) e3 e4
theorem gw_5 {W : World} (h : laidMet Tryz.prog Rows.yamlNestsRow.laid W) : ∃ ty fr, W.heap[5]? = some (.cells gl_5.toArray ty fr) := by
  have h1 : VarReads Tryz.prog W "math/bits.deBruijn64tab" Rows.laid_math_bits_deBruijn64tab := laidMet.reads h (by simp [Rows.yamlNestsRow])
  obtain ⟨g, t, cs, fuel, p, e1, e2, e3, e4⟩ := h1
  obtain rfl := Option.some.inj ((show Tryz.prog.globalNamed "math/bits.deBruijn64tab" = some 5 by kernel_rfl).symm.trans e1)
  obtain rfl := Option.some.inj ((show (Tryz.prog.globals[5]?).map (·.type) = some 172 by kernel_rfl).symm.trans e2)
  exact gl_arr (show Tryz.prog.globalNamed "math/bits.deBruijn64tab" = some 5 by kernel_rfl) Tryz.underlying172 (by kernel_rfl) (by kernel_rfl) (by kernel_rfl) e3 e4
theorem gw_3 {W : World} (h : laidMet Tryz.prog Rows.yamlNestsRow.laid W) : ∃ ty fr, W.heap[3]? = some (.cells gl_3.toArray ty fr) := by
  have h1 : VarReads Tryz.prog W "internal/strconv.uint64pow10" Rows.laid_internal_strconv_uint64pow10 := laidMet.reads h (by simp [Rows.yamlNestsRow])
  obtain ⟨g, t, cs, fuel, p, e1, e2, e3, e4⟩ := h1
  obtain rfl := Option.some.inj ((show Tryz.prog.globalNamed "internal/strconv.uint64pow10" = some 3 by kernel_rfl).symm.trans e1)
  obtain rfl := Option.some.inj ((show (Tryz.prog.globals[3]?).map (·.type) = some 158 by kernel_rfl).symm.trans e2)
  exact gl_arr (show Tryz.prog.globalNamed "internal/strconv.uint64pow10" = some 3 by kernel_rfl) Tryz.underlying158 (by kernel_rfl) (by kernel_rfl) (by kernel_rfl) e3 e4
theorem gw_7 {W : World} (h : laidMet Tryz.prog Rows.yamlNestsRow.laid W) : ∃ ev ty fr, W.heap[7]? = some (.cells #[ev] ty fr) ∧ (ev = .nilIface ∨ ∃ te pe, ev = .iface te pe) := by
  have h1 : VarReads Tryz.prog W "strconv.ErrRange" Rows.laid_strconv_ErrRange := laidMet.reads h (by simp [Rows.yamlNestsRow])
  obtain ⟨g, t, cs, fuel, p, e1, e2, e3, e4⟩ := h1
  obtain rfl := Option.some.inj ((show Tryz.prog.globalNamed "strconv.ErrRange" = some 7 by kernel_rfl).symm.trans e1)
  obtain rfl := Option.some.inj ((show (Tryz.prog.globals[7]?).map (·.type) = some 73 by kernel_rfl).symm.trans e2)
  exact gl_ifc (show Tryz.prog.globalNamed "strconv.ErrRange" = some 7 by kernel_rfl) Tryz.underlying73 e3 e4
theorem gw_6 {W : World} (h : laidMet Tryz.prog Rows.yamlNestsRow.laid W) : ∃ ev ty fr, W.heap[6]? = some (.cells #[ev] ty fr) ∧ (ev = .nilIface ∨ ∃ te pe, ev = .iface te pe) := by
  have h1 : VarReads Tryz.prog W "strconv.ErrSyntax" Rows.laid_strconv_ErrSyntax := laidMet.reads h (by simp [Rows.yamlNestsRow])
  obtain ⟨g, t, cs, fuel, p, e1, e2, e3, e4⟩ := h1
  obtain rfl := Option.some.inj ((show Tryz.prog.globalNamed "strconv.ErrSyntax" = some 6 by kernel_rfl).symm.trans e1)
  obtain rfl := Option.some.inj ((show (Tryz.prog.globals[6]?).map (·.type) = some 73 by kernel_rfl).symm.trans e2)
  exact gl_ifc (show Tryz.prog.globalNamed "strconv.ErrSyntax" = some 6 by kernel_rfl) Tryz.underlying73 e3 e4
theorem gz_0 {W : World} (h : W.ShapedOpen Tryz.prog) : ∃ m, W.cell? ⟨0, 0, none⟩ = some (.int .i64 m) := cell_of_shapedOpen_int h (of_decide_eq_true (by kernel_rfl)) (show _ = some (#[.int .i64 0], 3) by kernel_rfl) rfl (by kernel_rfl) (by kernel_rfl) (by kernel_rfl)
theorem gw_of_laid {W : World} (h : laidMet Tryz.prog Rows.yamlNestsRow.laid W) (hS : W.ShapedOpen Tryz.prog) : GW W := by
  refine ⟨fun x hx => ?_, fun x hx => ?_, fun x hx => ?_⟩
  · simp only [globL, List.mem_cons, List.not_mem_nil, or_false] at hx
    rcases hx with rfl | rfl | rfl
    · exact gw_4 h
    · exact gw_5 h
    · exact gw_3 h
  · simp only [globI, List.mem_cons, List.not_mem_nil, or_false] at hx
    rcases hx with rfl | rfl
    · exact gw_7 h
    · exact gw_6 h
  · simp only [globZ, List.mem_cons, List.not_mem_nil, or_false] at hx
    rcases hx with rfl
    · exact gz_0 hS
end Go.Proofs.YtgekcnpfflhpkaaGreatDoor
