/-
  NARROWER THAN 'FOR EVERY INPUT', by the rows' own cells (each row's printed sentence says how): DriftCompares: loops · DriftEdits: loops · DriftMerges: loops.
  DERIVED. THE GIVEN ROWS OF THIS SEAT. 3 by the template 'for every input the law returns true; each argument reads behind the call as it read before'; 0 by the template 'total and deterministic' (their statements: YtamecdecpmklmaaTotals.lean).
  GIVEN WITH THE SEED: the statements are not yours to turn. If you find one false, say at which input.
  Laid BY PROGRAM, IN A SANDBOX (cutbox-rows.mjs): the forced cells as the released guide's own fill.sh prints them over the translation c1edc7444298c4ae… (all of the seat's roots in one cut). By AI agents, Wed Nov 11 2026. No macro, syntax, notation, axiom, sorry.
-/
import Derived.Test.YtamecdecpmklmaaChecked
import GoSem.Claim
import GoSem.ClaimJoined
import GoSem.ClaimMapViews
import Derived.JoinedTies
import Derived.KernelRfl
namespace Go.Proofs.Ytamecdecpmklmaa
/- THE CELL 'sum', in the pinned program and in every row, IS THE sha256 OF THE DUMP (.gsa) THAT YtamecdecpmklmaaProg.lean LOADS. Nothing in Lean hashes anything: it is a label: what it is worth is what the hold of that sum in a sandbox is worth. -/
noncomputable def Try.pinned : Pinned := { name := "ytamecdecpmklmaa", sum := "c1edc7444298c4aef42c284a6027ca1d32fc211dfd9920a66c40dcedc9bc6138", checked := Try.checked }
namespace Rows
def none {H : Type} : Left H := { results := [], args := [] }

/-- 'mizzenlaw21.DriftCompares': WHATEVER THE INPUT: true; the input reads as it did. -/
def driftComparesSpec : ChangeSpec := { name := "driftCompares", fn := fun _ => fun
  | [d1, d2, d3] => { results := [.lit (.bool true)], args := [d1, d2, d3] }
  | _ => none }
def driftComparesRow : OpenClaim := { program := "ytamecdecpmklmaa", sum := "c1edc7444298c4aef42c284a6027ca1d32fc211dfd9920a66c40dcedc9bc6138", func := "mizzen/mizzenlaw21.DriftCompares", spec := "driftCompares", inPlace := ["internal/bytealg.abigen_runtime_cmpstring", "slices.overlaps[mizzen/api.Pair]"], unfollowed := true, recurses := true, loops := true, apart := false }
def DriftComparesSaid : Prop := driftComparesRow.holds Try.pinned (OpenSpec.ofChange driftComparesSpec)

/-- ITS FALSE NEIGHBOUR: 'it returns false'. Refute it at one input. -/
def driftComparesWrong : ChangeSpec := { name := "driftCompares", fn := fun _ => fun
  | [d1, d2, d3] => { results := [.lit (.bool false)], args := [d1, d2, d3] }
  | _ => none }
def DriftComparesWrongFalsely : Prop := driftComparesRow.holds Try.pinned (OpenSpec.ofChange driftComparesWrong)

/-- 'mizzenlaw21.DriftEdits': WHATEVER THE INPUT: true; the input reads as it did. -/
def driftEditsSpec : ChangeSpec := { name := "driftEdits", fn := fun _ => fun
  | [d1, d2, d3, d4] => { results := [.lit (.bool true)], args := [d1, d2, d3, d4] }
  | _ => none }
def driftEditsRow : OpenClaim := { program := "ytamecdecpmklmaa", sum := "c1edc7444298c4aef42c284a6027ca1d32fc211dfd9920a66c40dcedc9bc6138", func := "mizzen/mizzenlaw21.DriftEdits", spec := "driftEdits", inPlace := ["internal/bytealg.abigen_runtime_cmpstring", "slices.overlaps[mizzen/api.Pair]"], unfollowed := true, recurses := true, loops := true, apart := false }
def DriftEditsSaid : Prop := driftEditsRow.holds Try.pinned (OpenSpec.ofChange driftEditsSpec)

/-- ITS FALSE NEIGHBOUR: 'it returns false'. Refute it at one input. -/
def driftEditsWrong : ChangeSpec := { name := "driftEdits", fn := fun _ => fun
  | [d1, d2, d3, d4] => { results := [.lit (.bool false)], args := [d1, d2, d3, d4] }
  | _ => none }
def DriftEditsWrongFalsely : Prop := driftEditsRow.holds Try.pinned (OpenSpec.ofChange driftEditsWrong)

/-- 'mizzenlaw21.DriftMerges': WHATEVER THE INPUT: true; the input reads as it did. -/
def driftMergesSpec : ChangeSpec := { name := "driftMerges", fn := fun _ => fun
  | [d1, d2] => { results := [.lit (.bool true)], args := [d1, d2] }
  | _ => none }
def driftMergesRow : OpenClaim := { program := "ytamecdecpmklmaa", sum := "c1edc7444298c4aef42c284a6027ca1d32fc211dfd9920a66c40dcedc9bc6138", func := "mizzen/mizzenlaw21.DriftMerges", spec := "driftMerges", inPlace := ["internal/bytealg.abigen_runtime_cmpstring", "slices.overlaps[mizzen/api.Pair]"], unfollowed := true, recurses := true, loops := true, apart := false }
def DriftMergesSaid : Prop := driftMergesRow.holds Try.pinned (OpenSpec.ofChange driftMergesSpec)

/-- ITS FALSE NEIGHBOUR: 'it returns false'. Refute it at one input. -/
def driftMergesWrong : ChangeSpec := { name := "driftMerges", fn := fun _ => fun
  | [d1, d2] => { results := [.lit (.bool false)], args := [d1, d2] }
  | _ => none }
def DriftMergesWrongFalsely : Prop := driftMergesRow.holds Try.pinned (OpenSpec.ofChange driftMergesWrong)

/- THE SECOND FORM. 'bulk': how many values and letters a reading holds, each counted each time it is reached (what is shared counts as often as it is met; a slice's spare places count too). A statement '..UptoSaid' is the law's where the arguments, and the package variables that the reading takes, are together of bulk at most 1048576: NARROWER than '..Said'. Prove '..Said' where nothing that the law and all that it calls make is longer than what came in: it says more and counts as full. Else prove '..UptoSaid'. A law counts once. -/
mutual
def uptoBulk {H : Type} : DataW H → Nat
  | .lit (.string bytes) => bytes.length + 1
  | .lit _ => 1
  | .nil => 1
  | .ptr d => uptoBulk d + 1
  | .slice elems spare => uptoBulkAll elems + uptoBulkAll spare + 1
  | .agg parts => uptoBulkAll parts + 1
  | .iface _ d => uptoBulk d + 1
  | .map entries => uptoBulkEntries entries + 1
  | .held _ => 1
def uptoBulkAll {H : Type} : List (DataW H) → Nat
  | [] => 0
  | d :: r => uptoBulk d + uptoBulkAll r
def uptoBulkEntries {H : Type} : List (Lit × DataW H) → Nat
  | [] => 0
  | x :: r => uptoBulkEntry x + uptoBulkEntries r
def uptoBulkEntry {H : Type} : Lit × DataW H → Nat
  | (.string bytes, d) => bytes.length + uptoBulk d + 1
  | (_, d) => uptoBulk d + 1
 end
def uptoSmall : (H : Type) → List (DataW H) → Bool := fun _ ds => decide (uptoBulkAll ds ≤ 1048576)
def OpenSpec.upto (s : _root_.Go.ChangeSpec) : _root_.Go.OpenSpec := { _root_.Go.OpenSpec.ofChange s with cond := some uptoSmall }

/-- 'mizzenlaw21.DriftCompares', WHERE WHAT IT READS IS OF BULK AT MOST 1048576: true; the input reads as it did. -/
def driftComparesUptoRow : OpenClaim := { program := "ytamecdecpmklmaa", sum := "c1edc7444298c4aef42c284a6027ca1d32fc211dfd9920a66c40dcedc9bc6138", func := "mizzen/mizzenlaw21.DriftCompares", spec := "driftCompares", inPlace := ["internal/bytealg.abigen_runtime_cmpstring", "slices.overlaps[mizzen/api.Pair]"], unfollowed := true, recurses := true, loops := true, apart := false, narrowed := true }
def DriftComparesUptoSaid : Prop := driftComparesUptoRow.holds Try.pinned (OpenSpec.upto driftComparesSpec)

/-- 'mizzenlaw21.DriftEdits', WHERE WHAT IT READS IS OF BULK AT MOST 1048576: true; the input reads as it did. -/
def driftEditsUptoRow : OpenClaim := { program := "ytamecdecpmklmaa", sum := "c1edc7444298c4aef42c284a6027ca1d32fc211dfd9920a66c40dcedc9bc6138", func := "mizzen/mizzenlaw21.DriftEdits", spec := "driftEdits", inPlace := ["internal/bytealg.abigen_runtime_cmpstring", "slices.overlaps[mizzen/api.Pair]"], unfollowed := true, recurses := true, loops := true, apart := false, narrowed := true }
def DriftEditsUptoSaid : Prop := driftEditsUptoRow.holds Try.pinned (OpenSpec.upto driftEditsSpec)

/-- 'mizzenlaw21.DriftMerges', WHERE WHAT IT READS IS OF BULK AT MOST 1048576: true; the input reads as it did. -/
def driftMergesUptoRow : OpenClaim := { program := "ytamecdecpmklmaa", sum := "c1edc7444298c4aef42c284a6027ca1d32fc211dfd9920a66c40dcedc9bc6138", func := "mizzen/mizzenlaw21.DriftMerges", spec := "driftMerges", inPlace := ["internal/bytealg.abigen_runtime_cmpstring", "slices.overlaps[mizzen/api.Pair]"], unfollowed := true, recurses := true, loops := true, apart := false, narrowed := true }
def DriftMergesUptoSaid : Prop := driftMergesUptoRow.holds Try.pinned (OpenSpec.upto driftMergesSpec)

end Rows
end Go.Proofs.Ytamecdecpmklmaa
