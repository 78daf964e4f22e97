/-
  DERIVED. GIVEN WITH THE SEED: THE CARDS: each row of YtnpkejnaeemgjaaGreatDoorRows.lean that lists a variable, with what it lists TIED to the program's text (the seventh form; the later family's looks); each row that meets fmt, with fmt's text TOLD by the authors' own Lean function (tested against real Go, not proved from fmt's source: count such statements apart). THE CARD IS WHAT COUNTS. Prove the row's statement (the work); the ties are given (YtnpkejnaeemgjaaGreatDoorTie.lean); close each card by the builder's one call (the guide's Derived/Test/ToyasCard.lean, 'card_holds'). Laid BY PROGRAM, IN A SANDBOX (cutbox-door.mjs). By AI agents, Wed Nov 11 2026. No macro, syntax, notation, axiom, sorry.
-/
import Derived.Test.YtnpkejnaeemgjaaGreatDoorRows
import GoSem.ClaimSeven
namespace Go.Proofs.YtnpkejnaeemgjaaGreatDoor
namespace Rows

/-- THE TIED CARD OF 'mizzenlaw11.ValuesLayers'. -/
def valuesLayersCard : Claim7 := { stood := { row := valuesLayersRow, standIns := [], harness := (true, "93cbc909325a7d76f9e5e5fff2d452cb0e24a240ad1a4ea52642796309c997de"), looks := true }, kinds := [], alts := [], laidByText := true, laidKinds := [.data, .data, .data, .data, .sentinel, .sentinel, .pinned], laidTests := true, laidLooks := .later }
def ValuesLayersCardSaid : Prop := Claim7.holds Tryz.pinned (.plain (OpenSpec.ofChange valuesLayersSpec)) valuesLayersCard

/-- THE TIED CARD OF 'mizzenlaw11.ValuesTexts'. -/
def valuesTextsCard : Claim7 := { stood := { row := valuesTextsRow, standIns := [], harness := (true, "93cbc909325a7d76f9e5e5fff2d452cb0e24a240ad1a4ea52642796309c997de"), looks := true }, kinds := [], alts := [], laidByText := true, laidKinds := [.data, .data, .data, .data, .sentinel, .sentinel, .pinned], laidTests := true, laidLooks := .later }
def ValuesTextsCardSaid : Prop := Claim7.holds Tryz.pinned (.plain (OpenSpec.ofChange valuesTextsSpec)) valuesTextsCard

/-- THE SECOND FORM's CARD OF 'mizzenlaw11.ValuesLayers'. -/
def valuesLayersUptoCard : Claim7 := { stood := { row := valuesLayersUptoRow, standIns := [], harness := (true, "93cbc909325a7d76f9e5e5fff2d452cb0e24a240ad1a4ea52642796309c997de"), looks := true }, kinds := [], alts := [], laidByText := true, laidKinds := [.data, .data, .data, .data, .sentinel, .sentinel, .pinned], laidTests := true, laidLooks := .later }
def ValuesLayersUptoCardSaid : Prop := Claim7.holds Tryz.pinned (.plain (OpenSpec.upto valuesLayersSpec)) valuesLayersUptoCard

/-- THE SECOND FORM's CARD OF 'mizzenlaw11.ValuesTexts'. -/
def valuesTextsUptoCard : Claim7 := { stood := { row := valuesTextsUptoRow, standIns := [], harness := (true, "93cbc909325a7d76f9e5e5fff2d452cb0e24a240ad1a4ea52642796309c997de"), looks := true }, kinds := [], alts := [], laidByText := true, laidKinds := [.data, .data, .data, .data, .sentinel, .sentinel, .pinned], laidTests := true, laidLooks := .later }
def ValuesTextsUptoCardSaid : Prop := Claim7.holds Tryz.pinned (.plain (OpenSpec.upto valuesTextsSpec)) valuesTextsUptoCard
end Rows
end Go.Proofs.YtnpkejnaeemgjaaGreatDoor
