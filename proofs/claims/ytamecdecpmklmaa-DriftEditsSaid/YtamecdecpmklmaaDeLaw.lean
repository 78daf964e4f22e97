/-
  Proved: DriftEdits returns true for every input. Without conditions.
-/
import Derived.Test.YtamecdecpmklmaaDcLaw
import Derived.Test.YtamecdecpmklmaaEd3
namespace Go.Proofs.Ytamecdecpmklmaa
set_option linter.unusedSimpArgs false
set_option linter.unusedVariables false
open Go.ChangeShapes Go.WideShapes Go.ChangeAt Go.RowKit Go.Deep

theorem RelPs.four {σ : Sg} {a b c d : Value} {x y z u : AV} (h1 : RelP σ a x) (h2 : RelP σ b y) (h3 : RelP σ c z) (h4 : RelP σ d u) : RelPs σ [a, b, c, d] [x, y, z, u] := by
  refine ⟨rfl, fun j v w hv hu => ?_⟩
  rcases j with _ | _ | _ | _ | j <;> simp at hv hu
  · subst hv hu; exact h1
  · subst hv hu; exact h2
  · subst hv hu; exact h3
  · subst hv hu; exact h4
theorem str_arg {H : Type} {enc : TypeId × Value → H} {W : World} {base : Nat} {spare : Nat → Bool} {held : Bool} {v : Value} {d : DataW H} {p : List MemPlace} (hv : ∃ s, v = .string s) (h : DataW.Trod enc Try.prog W base spare held 9 v d p) (hw : WtOk Try.prog 9 d) :
    ∃ s : ByteArray, v = .string s ∧ s.size ≤ 140737488355328 := by
  obtain ⟨s, rfl⟩ := hv
  obtain ⟨fuel, hf⟩ := h
  obtain ⟨s', e, hx, _⟩ := DataW.trod_string Try.underlying9 hf
  injection e with e
  injection e with e
  subst e
  injection hx with hd _
  subst hd
  exact ⟨s, rfl, str_wt hw⟩

set_option maxRecDepth 100000 in
theorem driftEdits_lifted (os : Os) (started : os.Started) (H : Type) (enc : TypeId × Value → H) :
    ReturnsInHanded {} Try.checked os 4 .any (Rows.driftEditsSpec.pre6 enc Try.prog Try.f4 Rows.driftEditsRow.domain false) (Rows.driftEditsSpec.post enc Try.prog Try.f4 false true false false) := by
  refine returnsInHanded_of_change_sized (C := Try.checked) own started (by kernel_rfl) Try.func4
    (ChangeSpec.witness6 (enc := enc) (C := Try.checked) false ⟨#[], #[zeroV, zeroV, .int .u8 0, .string ⟨#[]⟩], []⟩ 8 (by kernel_rfl) (by kernel_rfl) (by kernel_rfl) (by kernel_rfl)) ?_
  intro W base args ds gs before hval0 hW _ hsz0 _
  have hsz : (DataW.weightsEach Try.prog (Try.f4.params.toList ++ Rows.driftEditsSpec.plain.varTypes Try.prog) (ds ++ gs)).all (· ≤ reachBytes) = true := hsz0
  have hval : ∀ (j : Nat) t v, Try.f4.params[j]? = some t → args[j]? = some v → Value.okWide Try.prog W .any base t v := hval0
  have hW' := hW
  obtain ⟨p, q, hA0, hV, rfl, hfz, hnd⟩ := hW
  have hA : DataW.TrodAll enc Try.prog W 0 (fun _ => true) true Try.f4.params.toList args.toList ds p := hA0
  rw [Try.params4] at hA hval hsz
  clear hA0 hval0 hsz0
  obtain ⟨v0, vs0, d0, ds0, p0, q0, e0, rfl, rfl, h0, k0⟩ := trodAll_cons hA
  obtain ⟨v1, vs1, d1, ds1, p1, q1, rfl, rfl, rfl, h1, k1⟩ := trodAll_cons k0
  obtain ⟨v2, vs2, d2, ds2, p2, q2, rfl, rfl, rfl, h2, k2⟩ := trodAll_cons k1
  obtain ⟨v3, vs3, d3, ds3, p3, q3, rfl, rfl, rfl, h3, k3⟩ := trodAll_cons k2
  obtain ⟨rfl, rfl, rfl⟩ := trodAll_nil k3
  have e0' : args = #[v0, v1, v2, v3] := by cases args; simp_all
  subst e0'
  obtain ⟨rfl, rfl⟩ := trodVars_none hV
  obtain ⟨v, r0, s0⟩ := val_arg (okWide_struct Try.underlying27 (hval 0 27 v0 rfl rfl)) h0 (wt_arg hsz (j := 0) rfl rfl)
  obtain ⟨x, r1, s1⟩ := val_arg (okWide_struct Try.underlying27 (hval 1 27 v1 rfl rfl)) h1 (wt_arg hsz (j := 1) rfl rfl)
  obtain ⟨n, rfl, rfl, rfl, wn⟩ := open_int Try.underlying5 (hval 2 5 v2 rfl rfl) h2
  have hn : 0 ≤ n ∧ n ≤ 255 := by simpa [Lit.wf, IntKind.min, IntKind.max, IntKind.signed, IntKind.bits] using wn
  obtain ⟨nn, rfl⟩ := Int.eq_ofNat_of_zero_le hn.1
  obtain ⟨key, rfl, hkey⟩ := str_arg (okWide_string Try.underlying9 (hval 3 9 v3 rfl rfl)) h3 (wt_arg hsz (j := 3) rfl rfl)
  refine ((driftEdits_a v x nn key (by omega) hkey s0 s1).run (σW W) W [v0, v1, .int .u8 nn, .string key] (holds_all W) (RelPs.four r0 r1 (.int _ _) (.str _))).mono fun e W' ⟨σ', u, he, _, _, hb, hr⟩ => ?_
  subst he
  have hu : u = .bool true := by cases (show Rel1 σ' u (.bool true) from hr); rfl
  subst hu
  exact ⟨_, rfl, law_post laidOut (by kernel_rfl) (by kernel_rfl) Try.underlying4 rfl hW' rfl hb⟩

theorem driftEdits_holds : Rows.DriftEditsSaid :=
  OpenClaim.holds_of_wide 4 Try.f4 rfl rfl rfl rfl rfl rfl rfl ⟨rfl, rfl, rfl, rfl, rfl⟩ rfl rfl rfl rfl rfl (by kernel_rfl) Try.func4 (by kernel_rfl)
    (of_decide_eq_true (by kernel_rfl)) (by unfold Func.isWrapper; first | (rw [if_pos (by decide +kernel)]; kernel_rfl) | (rw [if_neg (by decide +kernel)]; exact ⟨rfl, rfl⟩))
    (fun os started H enc _ => driftEdits_lifted os started H enc)
#print axioms driftEdits_holds
end Go.Proofs.Ytamecdecpmklmaa
