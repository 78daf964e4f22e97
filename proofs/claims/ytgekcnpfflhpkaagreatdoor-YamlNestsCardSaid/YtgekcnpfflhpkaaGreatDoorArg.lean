/-
  The arguments of a call of a law, as abstract values.
-/
import Derived.Test.YtgekcnpfflhpkaaGreatDoorRows
import Derived.Test.YtgekcnpfflhpkaaGreatDoorSlR
namespace Go.Proofs.YtgekcnpfflhpkaaGreatDoor
set_option linter.unusedSimpArgs false
set_option linter.unusedVariables false
open Go.ChangeShapes Go.WideShapes Go.ChangeAt Go.RowKit Go.Deep

theorem own : ownKnob Tryz.prog.godebug = none := by kernel_rfl
theorem laidOut : laidOutB Tryz.prog = true := by kernel_rfl
theorem cellsS : Tryz.prog.cellsOf 9 = 1 := by kernel_rfl
theorem reach47 : reachBytes ≤ 140737488355328 := by decide
theorem str_wt {H : Type} {s : ByteArray} (h : WtOk (H := H) Tryz.prog 9 (.lit (.string s.data.toList))) : s.size ≤ 140737488355328 := by
  have := h s.data.toList.length (by simp [DataW.weights])
  have h2 := reach47
  have e : s.data.toList.length = s.size := by simp
  omega
theorem str_arg {H : Type} {enc : TypeId × Value → H} {W : World} {base : Nat} {spare : Nat → Bool} {held : Bool} {v : Value} {d : DataW H} {p : List MemPlace} (hv : ∃ s, v = .string s) (h : DataW.Trod enc Tryz.prog W base spare held 9 v d p) (hw : WtOk Tryz.prog 9 d) :
    ∃ s : ByteArray, v = .string s ∧ s.size ≤ 140737488355328 ∧ d = .lit (.string s.data.toList) := by
  obtain ⟨s, rfl⟩ := hv
  obtain ⟨fuel, hf⟩ := h
  obtain ⟨s', e, hx, _⟩ := DataW.trod_string Tryz.underlying9 hf
  injection e with e
  injection e with e
  subst e
  injection hx with hd _
  subst hd
  exact ⟨s, rfl, str_wt hw, rfl⟩
theorem wt_arg {H : Type} {ts : List TypeId} {ds : List (DataW H)} (h : (DataW.weightsEach Tryz.prog ts ds).all (· ≤ reachBytes) = true) {j : Nat} {t : TypeId} {d : DataW H} (ht : ts[j]? = some t) (hd : ds[j]? = some d) : WtOk Tryz.prog t d := fun q hq => by
  have := List.all_eq_true.1 h q (DataW.weights_mem_each ht hd q hq)
  simpa using this
theorem RelPs.two {σ : Sg} {a b : Value} {x y : AV} (h1 : RelP σ a x) (h2 : RelP σ b y) : RelPs σ [a, b] [x, y] := by
  refine ⟨rfl, fun j v w hv hu => ?_⟩
  rcases j with _ | _ | j <;> simp at hv hu
  · subst hv hu; exact h1
  · subst hv hu; exact h2
theorem RelPs.three {σ : Sg} {a b c : Value} {x y z : AV} (h1 : RelP σ a x) (h2 : RelP σ b y) (h3 : RelP σ c z) : RelPs σ [a, b, c] [x, y, z] := by
  refine ⟨rfl, fun j v w hv hu => ?_⟩
  rcases j with _ | _ | _ | j <;> simp at hv hu
  · subst hv hu; exact h1
  · subst hv hu; exact h2
  · subst hv hu; exact h3
theorem RelPs.four {σ : Sg} {a b c d : Value} {x y z u : AV} (h1 : RelP σ a x) (h2 : RelP σ b y) (h3 : RelP σ c z) (h4 : RelP σ d u) : RelPs σ [a, b, c, d] [x, y, z, u] := by
  refine ⟨rfl, fun j v w hv hu => ?_⟩
  rcases j with _ | _ | _ | _ | j <;> simp at hv hu
  · subst hv hu; exact h1
  · subst hv hu; exact h2
  · subst hv hu; exact h3
  · subst hv hu; exact h4
/-- a package variable, laid in a world for the witness -/
def setG (h : Array Obj) (g : Nat) (l : List Value) : Array Obj := h.modify g fun
  | .cells _ t frozen => .cells l.toArray t frozen
  | o => o
end Go.Proofs.YtgekcnpfflhpkaaGreatDoor
