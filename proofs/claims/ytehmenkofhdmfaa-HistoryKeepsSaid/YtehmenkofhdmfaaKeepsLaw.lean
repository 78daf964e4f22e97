/-
  Proved: HistoryKeeps returns true for every input. Without conditions.
-/
import Derived.Test.YtehmenkofhdmfaaRecFrame
import Derived.Test.YtehmenkofhdmfaaHistJ
namespace Go.Proofs.Ytehmenkofhdmfaa
set_option linter.unusedSimpArgs false
set_option linter.unusedVariables false
open Go.ChangeShapes Go.WideShapes Go.ChangeAt Go.RowKit Go.Deep

set_option maxRecDepth 100000 in
theorem historyKeeps_lifted (os : Os) (started : os.Started) (H : Type) (enc : TypeId × Value → H) :
    ReturnsInHanded {} Try.checked os 4 .any (Rows.historyKeepsSpec.pre6 enc Try.prog Try.f4 Rows.historyKeepsRow.domain false) (Rows.historyKeepsSpec.post enc Try.prog Try.f4 false true false false) := by
  refine returnsInHanded_of_change_sized (C := Try.checked) own started (by kernel_rfl) Try.func4
    (ChangeSpec.witness6 (enc := enc) (C := Try.checked) false ⟨#[], #[.slice none 0 0, .int .i64 0], []⟩ 8 (by kernel_rfl) (by kernel_rfl) (by kernel_rfl) (by kernel_rfl)) ?_
  intro W base args ds gs before hval0 hW _ hsz0 _
  have hsz : (DataW.weightsEach Try.prog (Try.f4.params.toList ++ Rows.historyKeepsSpec.plain.varTypes Try.prog) (ds ++ gs)).all (· ≤ reachBytes) = true := hsz0
  have hval : ∀ (j : Nat) t v, Try.f4.params[j]? = some t → args[j]? = some v → Value.okWide Try.prog W .any base t v := hval0
  have hW' := hW
  obtain ⟨p, q, hA0, hV, rfl, hfz, hnd⟩ := hW
  have hA : DataW.TrodAll enc Try.prog W 0 (fun _ => true) true Try.f4.params.toList args.toList ds p := hA0
  rw [Try.params4] at hA hval hsz
  clear hA0 hval0 hsz0
  obtain ⟨v0, v1, d0, d1, p0, p1, rfl, rfl, rfl, h0, h1⟩ := trodAll_two hA
  obtain ⟨rfl, rfl⟩ := trodVars_none hV
  obtain ⟨s, rfl, rfl, rfl, ws⟩ := open_int Try.underlying3 (hval 1 3 v1 rfl rfl) h1
  obtain ⟨a0, len, cap, rfl⟩ := okWide_slice Try.underlying22 (hval 0 22 v0 rfl rfl)
  obtain ⟨fuel, hf⟩ := h0
  obtain ⟨l, hl, hlen⟩ := sl_of_trod (R := RecR) Try.underlying22 cells37 (by decide) (v := .slice a0 len cap) (fuel := fuel) (by simpa [Value.cells] using hf) (fun n cs y _ h => rec_of_trod n cs y h)
  have hll : l.length ≤ 2000000000000 := by
    rcases hlen with ⟨_, rfl⟩ | ⟨elems, sp, hd, hle⟩
    · simp
    · have hd' : d0 = .slice elems sp := hd
      subst hd'
      have := sized_slice (P := Try.prog) hsz (j := 0) rfl rfl Try.underlying22
      rw [bytes37] at this
      have h2 := reachBytes_lt
      rw [← hle]
      omega
  refine (historyKeeps_any _ l s W hl hll).mono fun e W' ⟨he, hb⟩ => ?_
  subst he
  exact ⟨_, rfl, law_post laidOut (by kernel_rfl) (by kernel_rfl) Try.underlying4 rfl hW' rfl hb⟩

theorem historyKeeps_holds : Rows.HistoryKeepsSaid :=
  OpenClaim.holds_of_wide 4 Try.f4 rfl rfl rfl rfl rfl rfl rfl ⟨rfl, rfl, rfl, rfl, rfl⟩ rfl rfl rfl rfl rfl (by kernel_rfl) Try.func4 (by kernel_rfl)
    (of_decide_eq_true (by kernel_rfl)) (by unfold Func.isWrapper; first | (rw [if_pos (by decide +kernel)]; kernel_rfl) | (rw [if_neg (by decide +kernel)]; exact ⟨rfl, rfl⟩))
    (fun os started H enc _ => historyKeeps_lifted os started H enc)
#print axioms historyKeeps_holds
end Go.Proofs.Ytehmenkofhdmfaa
