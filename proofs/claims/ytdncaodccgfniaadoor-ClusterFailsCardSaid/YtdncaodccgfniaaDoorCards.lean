/-
  DERIVED. GIVEN WITH THE SEED: THE CARDS: each row of YtdncaodccgfniaaDoorRows.lean that lists a variable, with what it lists TIED to the program's text (the seventh form; the later family's looks); each row that meets fmt, with fmt's text TOLD by the authors' own Lean function (tested against real Go, not proved from fmt's source: count such statements apart). THE CARD IS WHAT COUNTS. Prove the row's statement (the work); the ties are given (YtdncaodccgfniaaDoorTie.lean); close each card by the builder's one call (the guide's Derived/Test/ToyasCard.lean, 'card_holds'). Laid BY PROGRAM, IN A SANDBOX (cutbox-door.mjs). By AI agents, Wed Nov 11 2026. No macro, syntax, notation, axiom, sorry.
-/
import Derived.Test.YtdncaodccgfniaaDoorRows
import GoSem.ClaimSeven
namespace Go.Proofs.YtdncaodccgfniaaDoor
namespace Rows

/-- THE TIED CARD OF 'mizzenlaw16.ClusterFails'. -/
def clusterFailsCard : Claim7 := { stood := { row := clusterFailsRow, standIns := [], harness := (true, "607edeb98d0df27864b0f8ebbe1c9b67892394f04cc16f6c2d95286a2ea73a2a"), looks := false }, kinds := [], alts := [], laidByText := true, laidKinds := [.widerDeep], laidTests := true, laidLooks := .later }
def ClusterFailsCardSaid : Prop := Claim7.holds Tryd.pinned (.plain (OpenSpec.ofChange clusterFailsSpec)) clusterFailsCard

/-- THE TIED CARD OF 'mizzenlaw16.ClusterFuses'. -/
def clusterFusesCard : Claim7 := { stood := { row := clusterFusesRow, standIns := [], harness := (true, "607edeb98d0df27864b0f8ebbe1c9b67892394f04cc16f6c2d95286a2ea73a2a"), looks := false }, kinds := [], alts := [], laidByText := true, laidKinds := [.widerDeep], laidTests := true, laidLooks := .later }
def ClusterFusesCardSaid : Prop := Claim7.holds Tryd.pinned (.plain (OpenSpec.ofChange clusterFusesSpec)) clusterFusesCard

/-- THE SECOND FORM's CARD OF 'mizzenlaw16.ClusterFails'. -/
def clusterFailsUptoCard : Claim7 := { stood := { row := clusterFailsUptoRow, standIns := [], harness := (true, "607edeb98d0df27864b0f8ebbe1c9b67892394f04cc16f6c2d95286a2ea73a2a"), looks := false }, kinds := [], alts := [], laidByText := true, laidKinds := [.widerDeep], laidTests := true, laidLooks := .later }
def ClusterFailsUptoCardSaid : Prop := Claim7.holds Tryd.pinned (.plain (OpenSpec.upto clusterFailsSpec)) clusterFailsUptoCard

/-- THE SECOND FORM's CARD OF 'mizzenlaw16.ClusterFuses'. -/
def clusterFusesUptoCard : Claim7 := { stood := { row := clusterFusesUptoRow, standIns := [], harness := (true, "607edeb98d0df27864b0f8ebbe1c9b67892394f04cc16f6c2d95286a2ea73a2a"), looks := false }, kinds := [], alts := [], laidByText := true, laidKinds := [.widerDeep], laidTests := true, laidLooks := .later }
def ClusterFusesUptoCardSaid : Prop := Claim7.holds Tryd.pinned (.plain (OpenSpec.upto clusterFusesSpec)) clusterFusesUptoCard
end Rows
end Go.Proofs.YtdncaodccgfniaaDoor
