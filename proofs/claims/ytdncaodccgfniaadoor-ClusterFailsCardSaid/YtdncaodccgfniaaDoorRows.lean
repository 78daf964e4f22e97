/-
  NARROWER THAN 'FOR EVERY INPUT', by the rows' own cells (each row's printed sentence says how): ClusterFails: laid · ClusterFuses: laid.
  DERIVED. THE GIVEN ROWS OF THIS SEAT. 2 by the template 'for every input the law returns true; each argument reads behind the call as it read before'; 0 by the template 'total and deterministic' (their statements: YtdncaodccgfniaaDoorTotals.lean).
  GIVEN WITH THE SEED: the statements are not yours to turn. If you find one false, say at which input.
  Laid BY PROGRAM, IN A SANDBOX (cutbox-rows.mjs): the forced cells as the released guide's own fill.sh prints them over the translation 353539846710f4cb… (all of the seat's roots in one cut). By AI agents, Wed Nov 11 2026. No macro, syntax, notation, axiom, sorry.
-/
import Derived.Test.YtdncaodccgfniaaDoorChecked
import GoSem.Claim
import GoSem.ClaimJoined
import GoSem.ClaimMapViews
import Derived.JoinedTies
import Derived.KernelRfl
namespace Go.Proofs.YtdncaodccgfniaaDoor
/- THE CELL 'sum', in the pinned program and in every row, IS THE sha256 OF THE DUMP (.gsa) THAT YtdncaodccgfniaaDoorProg.lean LOADS. Nothing in Lean hashes anything: it is a label: what it is worth is what the hold of that sum in a sandbox is worth. -/
noncomputable def Tryd.pinned : Pinned := { name := "ytdncaodccgfniaadoor", sum := "353539846710f4cb79a15a875a2fbc0e74246077278627874c051e51bcac93a9", checked := Tryd.checked }
namespace Rows
def none {H : Type} : Left H := { results := [], args := [] }

/- WHAT THE LISTED PACKAGE-LEVEL VARIABLES READ AS WHEN THE CALL BEGINS. Each datum BY PROGRAM (the guide's laid-datum.mjs) off the statement by which the dump's own 'gosem.cut.vars' lays the variable. In a bare row this is a premise. The card (YtdncaodccgfniaaDoorCards.lean) ties it to the program's text. -/
def laid_mizzen_object_order {H : Type} : DataW H := .agg [.lit (.string [78, 97, 109, 101, 115, 112, 97, 99, 101]), .lit (.string [83, 101, 99, 114, 101, 116]), .lit (.string [67, 111, 110, 102, 105, 103, 77, 97, 112]), .lit (.string [86, 111, 108, 117, 109, 101]), .lit (.string [65, 99, 99, 111, 117, 110, 116]), .lit (.string [82, 111, 108, 101]), .lit (.string [83, 101, 114, 118, 105, 99, 101]), .lit (.string [68, 101, 112, 108, 111, 121, 109, 101, 110, 116]), .lit (.string [74, 111, 98]), .lit (.string [73, 110, 103, 114, 101, 115, 115])]

/-- 'mizzenlaw16.ClusterFails': WHATEVER THE INPUT: true; the input reads as it did. -/
def clusterFailsSpec : ChangeSpec := { name := "clusterFails", fn := fun _ => fun
  | [d1, d2] => { results := [.lit (.bool true)], args := [d1, d2] }
  | _ => none }
def clusterFailsRow : OpenClaim := { program := "ytdncaodccgfniaadoor", sum := "353539846710f4cb79a15a875a2fbc0e74246077278627874c051e51bcac93a9", func := "mizzen/mizzenlaw16.ClusterFails", spec := "clusterFails", inPlace := ["internal/bytealg.abigen_runtime_cmpstring", "slices.overlaps[mizzen/api.Pair]", "internal/bytealg.IndexByteString", "internal/bytealg.IndexString", "sync/atomic.AddInt64"], unfollowed := true, recurses := true, named := ["internal/bytealg.MaxLen", "mizzen/object.order"], plainKeys := false, apart := false, laid := [("mizzen/object.order", laid_mizzen_object_order)] }
def ClusterFailsSaid : Prop := clusterFailsRow.holds Tryd.pinned (OpenSpec.ofChange clusterFailsSpec)

/-- ITS FALSE NEIGHBOUR: 'it returns false'. Refute it at one input. -/
def clusterFailsWrong : ChangeSpec := { name := "clusterFails", fn := fun _ => fun
  | [d1, d2] => { results := [.lit (.bool false)], args := [d1, d2] }
  | _ => none }
def ClusterFailsWrongFalsely : Prop := clusterFailsRow.holds Tryd.pinned (OpenSpec.ofChange clusterFailsWrong)

/-- 'mizzenlaw16.ClusterFuses': WHATEVER THE INPUT: true; the input reads as it did. -/
def clusterFusesSpec : ChangeSpec := { name := "clusterFuses", fn := fun _ => fun
  | [d1, d2] => { results := [.lit (.bool true)], args := [d1, d2] }
  | _ => none }
def clusterFusesRow : OpenClaim := { program := "ytdncaodccgfniaadoor", sum := "353539846710f4cb79a15a875a2fbc0e74246077278627874c051e51bcac93a9", func := "mizzen/mizzenlaw16.ClusterFuses", spec := "clusterFuses", inPlace := ["internal/bytealg.abigen_runtime_cmpstring", "slices.overlaps[mizzen/api.Pair]", "internal/bytealg.IndexByteString", "internal/bytealg.IndexString", "sync/atomic.AddInt64"], unfollowed := true, recurses := true, named := ["internal/bytealg.MaxLen", "mizzen/object.order"], plainKeys := false, apart := false, laid := [("mizzen/object.order", laid_mizzen_object_order)] }
def ClusterFusesSaid : Prop := clusterFusesRow.holds Tryd.pinned (OpenSpec.ofChange clusterFusesSpec)

/-- ITS FALSE NEIGHBOUR: 'it returns false'. Refute it at one input. -/
def clusterFusesWrong : ChangeSpec := { name := "clusterFuses", fn := fun _ => fun
  | [d1, d2] => { results := [.lit (.bool false)], args := [d1, d2] }
  | _ => none }
def ClusterFusesWrongFalsely : Prop := clusterFusesRow.holds Tryd.pinned (OpenSpec.ofChange clusterFusesWrong)

/- THE SECOND FORM. 'bulk': how many values and letters a reading holds, each counted each time it is reached (what is shared counts as often as it is met; a slice's spare places count too). A statement '..UptoSaid' is the law's where the arguments, and the package variables that the reading takes, are together of bulk at most 1048576: NARROWER than '..Said'. Prove '..Said' where nothing that the law and all that it calls make is longer than what came in: it says more and counts as full. Else prove '..UptoSaid'. A law counts once. -/
mutual
def uptoBulk {H : Type} : DataW H → Nat
  | .lit (.string bytes) => bytes.length + 1
  | .lit _ => 1
  | .nil => 1
  | .ptr d => uptoBulk d + 1
  | .slice elems spare => uptoBulkAll elems + uptoBulkAll spare + 1
  | .agg parts => uptoBulkAll parts + 1
  | .iface _ d => uptoBulk d + 1
  | .map entries => uptoBulkEntries entries + 1
  | .held _ => 1
def uptoBulkAll {H : Type} : List (DataW H) → Nat
  | [] => 0
  | d :: r => uptoBulk d + uptoBulkAll r
def uptoBulkEntries {H : Type} : List (Lit × DataW H) → Nat
  | [] => 0
  | x :: r => uptoBulkEntry x + uptoBulkEntries r
def uptoBulkEntry {H : Type} : Lit × DataW H → Nat
  | (.string bytes, d) => bytes.length + uptoBulk d + 1
  | (_, d) => uptoBulk d + 1
 end
def uptoSmall : (H : Type) → List (DataW H) → Bool := fun _ ds => decide (uptoBulkAll ds ≤ 1048576)
def OpenSpec.upto (s : _root_.Go.ChangeSpec) : _root_.Go.OpenSpec := { _root_.Go.OpenSpec.ofChange s with cond := some uptoSmall }

/-- 'mizzenlaw16.ClusterFails', WHERE WHAT IT READS IS OF BULK AT MOST 1048576: true; the input reads as it did. -/
def clusterFailsUptoRow : OpenClaim := { program := "ytdncaodccgfniaadoor", sum := "353539846710f4cb79a15a875a2fbc0e74246077278627874c051e51bcac93a9", func := "mizzen/mizzenlaw16.ClusterFails", spec := "clusterFails", inPlace := ["internal/bytealg.abigen_runtime_cmpstring", "slices.overlaps[mizzen/api.Pair]", "internal/bytealg.IndexByteString", "internal/bytealg.IndexString", "sync/atomic.AddInt64"], unfollowed := true, recurses := true, named := ["internal/bytealg.MaxLen", "mizzen/object.order"], plainKeys := false, apart := false, laid := [("mizzen/object.order", laid_mizzen_object_order)], narrowed := true }
def ClusterFailsUptoSaid : Prop := clusterFailsUptoRow.holds Tryd.pinned (OpenSpec.upto clusterFailsSpec)

/-- 'mizzenlaw16.ClusterFuses', WHERE WHAT IT READS IS OF BULK AT MOST 1048576: true; the input reads as it did. -/
def clusterFusesUptoRow : OpenClaim := { program := "ytdncaodccgfniaadoor", sum := "353539846710f4cb79a15a875a2fbc0e74246077278627874c051e51bcac93a9", func := "mizzen/mizzenlaw16.ClusterFuses", spec := "clusterFuses", inPlace := ["internal/bytealg.abigen_runtime_cmpstring", "slices.overlaps[mizzen/api.Pair]", "internal/bytealg.IndexByteString", "internal/bytealg.IndexString", "sync/atomic.AddInt64"], unfollowed := true, recurses := true, named := ["internal/bytealg.MaxLen", "mizzen/object.order"], plainKeys := false, apart := false, laid := [("mizzen/object.order", laid_mizzen_object_order)], narrowed := true }
def ClusterFusesUptoSaid : Prop := clusterFusesUptoRow.holds Tryd.pinned (OpenSpec.upto clusterFusesSpec)

end Rows
end Go.Proofs.YtdncaodccgfniaaDoor
