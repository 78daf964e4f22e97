/-
  Proved: DriftCompares returns true for every input. Without conditions.
-/
import Derived.Test.YtamecdecpmklmaaVFr
import Derived.Test.YtamecdecpmklmaaAwk
namespace Go.Proofs.Ytamecdecpmklmaa
set_option linter.unusedSimpArgs false
set_option linter.unusedVariables false
open Go.ChangeShapes Go.WideShapes Go.ChangeAt Go.RowKit Go.Deep

theorem okWide_struct {P : Program} {w : World} {r : Reach} {base : Nat} {t : TypeId} {v : Value} {fs : Array Field} (ht : P.underlying t = some (.struct fs)) (h : Value.okWide P w r base t v) : ∃ cs : Array Value, v = .agg cs := by
  simp only [Value.okWide, ht] at h
  obtain ⟨cs, h1, _⟩ := h
  exact ⟨cs, h1⟩
theorem cellsID : Try.prog.cellsOf 23 = 3 := by kernel_rfl
/-- a value of the document's, handed in -/
theorem val_arg {H : Type} {enc : TypeId × Value → H} {W : World} {base : Nat} {spare : Nat → Bool} {held : Bool} {v : Value} {d : DataW H} {p : List MemPlace} (hv : ∃ cs : Array Value, v = .agg cs) (h : DataW.Trod enc Try.prog W base spare held 27 v d p) (hw : WtOk Try.prog 27 d) :
    ∃ u : V, RelP (σW W) v (.agg [.int .i64 (u).kind, .bool (u).b, .int .i64 (u).n, .str (u).s, .lst .any 6 (rowsV (u).l), .lst .any 7 (rowsM (u).m)]) ∧ u.sb := by
  obtain ⟨cs, rfl⟩ := hv
  obtain ⟨fuel, hf⟩ := h
  obtain ⟨u, h1, h2⟩ := val_of_trod fuel _ _ hf hw
  rw [cellsV_eq] at h1
  exact ⟨u, ⟨cs.toList, by simp, h1⟩, h2⟩
theorem id_arg {H : Type} {enc : TypeId × Value → H} {W : World} {base : Nat} {spare : Nat → Bool} {held : Bool} {v : Value} {d : DataW H} {p : List MemPlace} (hv : ∃ cs : Array Value, v = .agg cs) (h : DataW.Trod enc Try.prog W base spare held 23 v d p) :
    ∃ a b c : ByteArray, RelP (σW W) v (.agg [.str a, .str b, .str c]) := by
  obtain ⟨cs, rfl⟩ := hv
  obtain ⟨fuel, hf⟩ := h
  obtain ⟨xs, m, _, _, hl, hxl, hf⟩ := DataW.trod_struct Try.underlying23 hf
  rw [cellsID] at hl
  obtain ⟨c0, c1, c2, hcs⟩ : ∃ a b c, (Value.agg cs).cells.toList = [a, b, c] := by
    generalize (Value.agg cs).cells.toList = l at hl
    rcases l with _ | ⟨a, _ | ⟨b, _ | ⟨c, _ | ⟨d, l⟩⟩⟩⟩ <;> simp at hl
    exact ⟨a, b, c, rfl⟩
  rw [hcs] at hf
  obtain ⟨x0, x1, x2, rfl⟩ : ∃ a b c, xs = [a, b, c] := by
    have hxl : xs.length = 3 := hxl
    rcases xs with _ | ⟨a, _ | ⟨b, _ | ⟨c, _ | ⟨d, l⟩⟩⟩⟩ <;> simp at hxl
    exact ⟨a, b, c, rfl⟩
  have f0 : DataW.trod enc Try.prog W base spare held m 9 (List.take (Try.prog.cellsOf 9) (List.drop 0 [c0, c1, c2])) = some x0 := hf 0 _ rfl
  have f1 : DataW.trod enc Try.prog W base spare held m 9 (List.take (Try.prog.cellsOf 9) (List.drop 1 [c0, c1, c2])) = some x1 := hf 1 _ rfl
  have f2 : DataW.trod enc Try.prog W base spare held m 9 (List.take (Try.prog.cellsOf 9) (List.drop 2 [c0, c1, c2])) = some x2 := hf 2 _ rfl
  simp only [cellsS, List.drop_succ_cons, List.drop_zero, List.take_succ_cons, List.take_zero] at f0 f1 f2
  obtain ⟨s0, e0, _⟩ := DataW.trod_string Try.underlying9 f0
  obtain ⟨s1, e1, _⟩ := DataW.trod_string Try.underlying9 f1
  obtain ⟨s2, e2, _⟩ := DataW.trod_string Try.underlying9 f2
  injection e0 with e0; injection e1 with e1; injection e2 with e2
  subst e0 e1 e2
  have hcs' : cs.toList = [.string s0, .string s1, .string s2] := hcs
  exact ⟨s0, s1, s2, cs.toList, by simp, by rw [hcs']; exact .cons (.str _) (.cons (.str _) (.cons (.str _) .nil))⟩
theorem wt_arg {H : Type} {ts : List TypeId} {ds : List (DataW H)} (h : (DataW.weightsEach Try.prog ts ds).all (· ≤ reachBytes) = true) {j : Nat} {t : TypeId} {d : DataW H} (ht : ts[j]? = some t) (hd : ds[j]? = some d) : WtOk Try.prog t d := fun q hq => by
  have := List.all_eq_true.1 h q (DataW.weights_mem_each ht hd q hq)
  simpa using this
theorem RelPs.three {σ : Sg} {a b c : Value} {x y z : AV} (h1 : RelP σ a x) (h2 : RelP σ b y) (h3 : RelP σ c z) : RelPs σ [a, b, c] [x, y, z] := by
  refine ⟨rfl, fun j v u hv hu => ?_⟩
  rcases j with _ | _ | _ | j <;> simp at hv hu
  · subst hv hu; exact h1
  · subst hv hu; exact h2
  · subst hv hu; exact h3

set_option maxRecDepth 100000 in
theorem driftCompares_lifted (os : Os) (started : os.Started) (H : Type) (enc : TypeId × Value → H) :
    ReturnsInHanded {} Try.checked os 3 .any (Rows.driftComparesSpec.pre6 enc Try.prog Try.f3 Rows.driftComparesRow.domain false) (Rows.driftComparesSpec.post enc Try.prog Try.f3 false true false false) := by
  refine returnsInHanded_of_change_sized (C := Try.checked) own started (by kernel_rfl) Try.func3
    (ChangeSpec.witness6 (enc := enc) (C := Try.checked) false ⟨#[], #[.agg #[.string ⟨#[]⟩, .string ⟨#[]⟩, .string ⟨#[]⟩], zeroV, zeroV], []⟩ 8 (by kernel_rfl) (by kernel_rfl) (by kernel_rfl) (by kernel_rfl)) ?_
  intro W base args ds gs before hval0 hW _ hsz0 _
  have hsz : (DataW.weightsEach Try.prog (Try.f3.params.toList ++ Rows.driftComparesSpec.plain.varTypes Try.prog) (ds ++ gs)).all (· ≤ reachBytes) = true := hsz0
  have hval : ∀ (j : Nat) t v, Try.f3.params[j]? = some t → args[j]? = some v → Value.okWide Try.prog W .any base t v := hval0
  have hW' := hW
  obtain ⟨p, q, hA0, hV, rfl, hfz, hnd⟩ := hW
  have hA : DataW.TrodAll enc Try.prog W 0 (fun _ => true) true Try.f3.params.toList args.toList ds p := hA0
  rw [Try.params3] at hA hval hsz
  clear hA0 hval0 hsz0
  obtain ⟨v0, v1, v2, d0, d1, d2, p0, p1, p2, rfl, rfl, rfl, h0, h1, h2⟩ := trodAll_three hA
  obtain ⟨rfl, rfl⟩ := trodVars_none hV
  obtain ⟨a, b, c, r0⟩ := id_arg (okWide_struct Try.underlying23 (hval 0 23 v0 rfl rfl)) h0
  obtain ⟨live, r1, s1⟩ := val_arg (okWide_struct Try.underlying27 (hval 1 27 v1 rfl rfl)) h1 (wt_arg hsz (j := 1) rfl rfl)
  obtain ⟨want, r2, s2⟩ := val_arg (okWide_struct Try.underlying27 (hval 2 27 v2 rfl rfl)) h2 (wt_arg hsz (j := 2) rfl rfl)
  refine ((driftCompares_a clone_ok awake_a a b c live want s1 s2).run (σW W) W [v0, v1, v2] (holds_all W) (RelPs.three r0 r1 r2)).mono fun e W' ⟨σ', v, he, _, _, hb, hr⟩ => ?_
  subst he
  have hv : v = .bool true := by cases (show Rel1 σ' v (.bool true) from hr); rfl
  subst hv
  exact ⟨_, rfl, law_post laidOut (by kernel_rfl) (by kernel_rfl) Try.underlying4 rfl hW' rfl hb⟩

theorem driftCompares_holds : Rows.DriftComparesSaid :=
  OpenClaim.holds_of_wide 3 Try.f3 rfl rfl rfl rfl rfl rfl rfl ⟨rfl, rfl, rfl, rfl, rfl⟩ rfl rfl rfl rfl rfl (by kernel_rfl) Try.func3 (by kernel_rfl)
    (of_decide_eq_true (by kernel_rfl)) (by unfold Func.isWrapper; first | (rw [if_pos (by decide +kernel)]; kernel_rfl) | (rw [if_neg (by decide +kernel)]; exact ⟨rfl, rfl⟩))
    (fun os started H enc _ => driftCompares_lifted os started H enc)
#print axioms driftCompares_holds
end Go.Proofs.Ytamecdecpmklmaa
