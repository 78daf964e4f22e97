/-
  DERIVED. GIVEN WITH THE SEED: THE CARDS: each row of YtbgflifmanjpjaaGreatDoorRows.lean that lists a variable, with what it lists TIED to the program's text (the seventh form; the later family's looks); each row that meets fmt, with fmt's text TOLD by the authors' own Lean function (tested against real Go, not proved from fmt's source: count such statements apart). THE CARD IS WHAT COUNTS. Prove the row's statement (the work); the ties are given (YtbgflifmanjpjaaGreatDoorTie.lean); close each card by the builder's one call (the guide's Derived/Test/ToyasCard.lean, 'card_holds'). Laid BY PROGRAM, IN A SANDBOX (cutbox-door.mjs). By AI agents, Wed Nov 11 2026. No macro, syntax, notation, axiom, sorry.
-/
import Derived.Test.YtbgflifmanjpjaaGreatDoorRows
import GoSem.ClaimSeven
namespace Go.Proofs.YtbgflifmanjpjaaGreatDoor
namespace Rows

/-- THE TIED CARD OF 'mizzenlaw11.ValuesDots'. -/
def valuesDotsCard : Claim7 := { stood := { row := valuesDotsRow, standIns := [], harness := (true, "c0f3dc89e5b58f19799296b9a3120cc8e71a2e79400c3332db23dfaa8ac5d3d5"), looks := true }, kinds := [], alts := [], laidByText := true, laidKinds := [.data, .data, .data, .data, .sentinel, .sentinel, .pinned], laidTests := true, laidLooks := .later }
def ValuesDotsCardSaid : Prop := Claim7.holds Tryz.pinned (.plain (OpenSpec.ofChange valuesDotsSpec)) valuesDotsCard

/-- THE TIED CARD OF 'mizzenlaw10.ChartMakes'. -/
def chartMakesCard : Claim7 := { stood := { row := chartMakesRow, standIns := [], harness := (true, "c0f3dc89e5b58f19799296b9a3120cc8e71a2e79400c3332db23dfaa8ac5d3d5"), looks := true }, kinds := [], alts := [], laidByText := true, laidKinds := [.data, .data, .data, .data, .sentinel, .sentinel, .widerDeep, .pinned], laidTests := true, laidLooks := .later }
def ChartMakesCardSaid : Prop := Claim7.holds Tryz.pinned (.plain (OpenSpec.ofChange chartMakesSpec)) chartMakesCard

/-- THE TIED CARD OF 'mizzenlaw10.ChartRuns'. -/
def chartRunsCard : Claim7 := { stood := { row := chartRunsRow, standIns := [], harness := (true, "c0f3dc89e5b58f19799296b9a3120cc8e71a2e79400c3332db23dfaa8ac5d3d5"), looks := true }, kinds := [], alts := [], laidByText := true, laidKinds := [.data, .data, .data, .data, .sentinel, .sentinel, .widerDeep, .pinned], laidTests := true, laidLooks := .later }
def ChartRunsCardSaid : Prop := Claim7.holds Tryz.pinned (.plain (OpenSpec.ofChange chartRunsSpec)) chartRunsCard

/-- THE TIED CARD OF 'mizzenlaw13.RenderReads'. -/
def renderReadsCard : Claim7 := { stood := { row := renderReadsRow, standIns := [], harness := (true, "c0f3dc89e5b58f19799296b9a3120cc8e71a2e79400c3332db23dfaa8ac5d3d5"), looks := true }, kinds := [], alts := [], laidByText := true, laidKinds := [.data, .data, .data, .data, .sentinel, .sentinel, .widerDeep, .widerDeep, .pinned], laidTests := true, laidLooks := .later }
def RenderReadsCardSaid : Prop := Claim7.holds Tryz.pinned (.plain (OpenSpec.ofChange renderReadsSpec)) renderReadsCard

/-- THE SECOND FORM's CARD OF 'mizzenlaw11.ValuesDots'. -/
def valuesDotsUptoCard : Claim7 := { stood := { row := valuesDotsUptoRow, standIns := [], harness := (true, "c0f3dc89e5b58f19799296b9a3120cc8e71a2e79400c3332db23dfaa8ac5d3d5"), looks := true }, kinds := [], alts := [], laidByText := true, laidKinds := [.data, .data, .data, .data, .sentinel, .sentinel, .pinned], laidTests := true, laidLooks := .later }
def ValuesDotsUptoCardSaid : Prop := Claim7.holds Tryz.pinned (.plain (OpenSpec.upto valuesDotsSpec)) valuesDotsUptoCard

/-- THE SECOND FORM's CARD OF 'mizzenlaw10.ChartMakes'. -/
def chartMakesUptoCard : Claim7 := { stood := { row := chartMakesUptoRow, standIns := [], harness := (true, "c0f3dc89e5b58f19799296b9a3120cc8e71a2e79400c3332db23dfaa8ac5d3d5"), looks := true }, kinds := [], alts := [], laidByText := true, laidKinds := [.data, .data, .data, .data, .sentinel, .sentinel, .widerDeep, .pinned], laidTests := true, laidLooks := .later }
def ChartMakesUptoCardSaid : Prop := Claim7.holds Tryz.pinned (.plain (OpenSpec.upto chartMakesSpec)) chartMakesUptoCard

/-- THE SECOND FORM's CARD OF 'mizzenlaw10.ChartRuns'. -/
def chartRunsUptoCard : Claim7 := { stood := { row := chartRunsUptoRow, standIns := [], harness := (true, "c0f3dc89e5b58f19799296b9a3120cc8e71a2e79400c3332db23dfaa8ac5d3d5"), looks := true }, kinds := [], alts := [], laidByText := true, laidKinds := [.data, .data, .data, .data, .sentinel, .sentinel, .widerDeep, .pinned], laidTests := true, laidLooks := .later }
def ChartRunsUptoCardSaid : Prop := Claim7.holds Tryz.pinned (.plain (OpenSpec.upto chartRunsSpec)) chartRunsUptoCard

/-- THE SECOND FORM's CARD OF 'mizzenlaw13.RenderReads'. -/
def renderReadsUptoCard : Claim7 := { stood := { row := renderReadsUptoRow, standIns := [], harness := (true, "c0f3dc89e5b58f19799296b9a3120cc8e71a2e79400c3332db23dfaa8ac5d3d5"), looks := true }, kinds := [], alts := [], laidByText := true, laidKinds := [.data, .data, .data, .data, .sentinel, .sentinel, .widerDeep, .widerDeep, .pinned], laidTests := true, laidLooks := .later }
def RenderReadsUptoCardSaid : Prop := Claim7.holds Tryz.pinned (.plain (OpenSpec.upto renderReadsSpec)) renderReadsUptoCard
end Rows
end Go.Proofs.YtbgflifmanjpjaaGreatDoor
