/-
  DERIVED. GIVEN WITH THE SEED: THE CARDS: each row of YtgcodocajgdmcaaGreatDoorRows.lean that lists a variable, with what it lists TIED to the program's text (the seventh form; the later family's looks); each row that meets fmt, with fmt's text TOLD by the authors' own Lean function (tested against real Go, not proved from fmt's source: count such statements apart). THE CARD IS WHAT COUNTS. Prove the row's statement (the work); the ties are given (YtgcodocajgdmcaaGreatDoorTie.lean); close each card by the builder's one call (the guide's Derived/Test/ToyasCard.lean, 'card_holds'). Laid BY PROGRAM, IN A SANDBOX (cutbox-door.mjs). By AI agents, Wed Nov 11 2026. No macro, syntax, notation, axiom, sorry.
-/
import Derived.Test.YtgcodocajgdmcaaGreatDoorRows
import GoSem.ClaimSeven
namespace Go.Proofs.YtgcodocajgdmcaaGreatDoor
namespace Rows

/-- THE TIED CARD OF 'mizzenlaw17.RecordDecodes'. -/
def recordDecodesCard : Claim7 := { stood := { row := recordDecodesRow, standIns := [], harness := (true, "d8ec2b4f247e6667dfec41b330661e08a79bebb2702576b8977cd6a240f61ed1"), looks := true }, kinds := [], alts := [], laidByText := true, laidKinds := [.data, .data, .data, .sentinel, .sentinel], laidTests := true, laidLooks := .later }
def RecordDecodesCardSaid : Prop := Claim7.holds Tryz.pinned (.plain (OpenSpec.ofChange recordDecodesSpec)) recordDecodesCard

/-- THE TIED CARD OF 'mizzenlaw16.ClusterWrites'. -/
def clusterWritesCard : Claim7 := { stood := { row := clusterWritesRow, standIns := [], harness := (true, "d8ec2b4f247e6667dfec41b330661e08a79bebb2702576b8977cd6a240f61ed1"), looks := true }, kinds := [], alts := [], laidByText := true, laidKinds := [.widerDeep], laidTests := true, laidLooks := .later }
def ClusterWritesCardSaid : Prop := Claim7.holds Tryz.pinned (.plain (OpenSpec.ofChange clusterWritesSpec)) clusterWritesCard

/-- THE SECOND FORM's CARD OF 'mizzenlaw17.RecordDecodes'. -/
def recordDecodesUptoCard : Claim7 := { stood := { row := recordDecodesUptoRow, standIns := [], harness := (true, "d8ec2b4f247e6667dfec41b330661e08a79bebb2702576b8977cd6a240f61ed1"), looks := true }, kinds := [], alts := [], laidByText := true, laidKinds := [.data, .data, .data, .sentinel, .sentinel], laidTests := true, laidLooks := .later }
def RecordDecodesUptoCardSaid : Prop := Claim7.holds Tryz.pinned (.plain (OpenSpec.upto recordDecodesSpec)) recordDecodesUptoCard

/-- THE SECOND FORM's CARD OF 'mizzenlaw16.ClusterWrites'. -/
def clusterWritesUptoCard : Claim7 := { stood := { row := clusterWritesUptoRow, standIns := [], harness := (true, "d8ec2b4f247e6667dfec41b330661e08a79bebb2702576b8977cd6a240f61ed1"), looks := true }, kinds := [], alts := [], laidByText := true, laidKinds := [.widerDeep], laidTests := true, laidLooks := .later }
def ClusterWritesUptoCardSaid : Prop := Claim7.holds Tryz.pinned (.plain (OpenSpec.upto clusterWritesSpec)) clusterWritesUptoCard
end Rows
end Go.Proofs.YtgcodocajgdmcaaGreatDoor
