/-
  DERIVED. GIVEN WITH THE SEED: THE CARDS: each row of YtfnpjakekeojoaaGreatDoorRows.lean that lists a variable, with what it lists TIED to the program's text (the seventh form; the later family's looks); each row that meets fmt, with fmt's text TOLD by the authors' own Lean function (tested against real Go, not proved from fmt's source: count such statements apart). THE CARD IS WHAT COUNTS. Prove the row's statement (the work); the ties are given (YtfnpjakekeojoaaGreatDoorTie.lean); close each card by the builder's one call (the guide's Derived/Test/ToyasCard.lean, 'card_holds'). Laid BY PROGRAM, IN A SANDBOX (cutbox-door.mjs). By AI agents, Wed Nov 11 2026. No macro, syntax, notation, axiom, sorry.
-/
import Derived.Test.YtfnpjakekeojoaaGreatDoorRows
import GoSem.ClaimSeven
namespace Go.Proofs.YtfnpjakekeojoaaGreatDoor
namespace Rows

/-- THE TIED CARD OF 'mizzenlaw11.ValuesSets'. -/
def valuesSetsCard : Claim7 := { stood := { row := valuesSetsRow, standIns := [], harness := (true, "5f018119eb19561b80c1adef6c5df84174cfc8e65b2dfa01af5145c06ae73b60"), looks := true }, kinds := [], alts := [], laidByText := true, laidKinds := [.data, .data, .data, .data, .sentinel, .sentinel, .pinned], laidTests := true, laidLooks := .later }
def ValuesSetsCardSaid : Prop := Claim7.holds Tryz.pinned (.plain (OpenSpec.ofChange valuesSetsSpec)) valuesSetsCard

/-- THE TIED CARD OF 'mizzenlaw11.ValuesLast'. -/
def valuesLastCard : Claim7 := { stood := { row := valuesLastRow, standIns := [], harness := (true, "5f018119eb19561b80c1adef6c5df84174cfc8e65b2dfa01af5145c06ae73b60"), looks := true }, kinds := [], alts := [], laidByText := true, laidKinds := [.data, .data, .data, .data, .sentinel, .sentinel, .pinned], laidTests := true, laidLooks := .later }
def ValuesLastCardSaid : Prop := Claim7.holds Tryz.pinned (.plain (OpenSpec.ofChange valuesLastSpec)) valuesLastCard

/-- THE TIED CARD OF 'mizzenlaw11.ValuesWords'. -/
def valuesWordsCard : Claim7 := { stood := { row := valuesWordsRow, standIns := [], harness := (true, "5f018119eb19561b80c1adef6c5df84174cfc8e65b2dfa01af5145c06ae73b60"), looks := true }, kinds := [], alts := [], laidByText := true, laidKinds := [.data, .data, .data, .data, .sentinel, .sentinel, .pinned], laidTests := true, laidLooks := .later }
def ValuesWordsCardSaid : Prop := Claim7.holds Tryz.pinned (.plain (OpenSpec.ofChange valuesWordsSpec)) valuesWordsCard

/-- THE SECOND FORM's CARD OF 'mizzenlaw11.ValuesSets'. -/
def valuesSetsUptoCard : Claim7 := { stood := { row := valuesSetsUptoRow, standIns := [], harness := (true, "5f018119eb19561b80c1adef6c5df84174cfc8e65b2dfa01af5145c06ae73b60"), looks := true }, kinds := [], alts := [], laidByText := true, laidKinds := [.data, .data, .data, .data, .sentinel, .sentinel, .pinned], laidTests := true, laidLooks := .later }
def ValuesSetsUptoCardSaid : Prop := Claim7.holds Tryz.pinned (.plain (OpenSpec.upto valuesSetsSpec)) valuesSetsUptoCard

/-- THE SECOND FORM's CARD OF 'mizzenlaw11.ValuesLast'. -/
def valuesLastUptoCard : Claim7 := { stood := { row := valuesLastUptoRow, standIns := [], harness := (true, "5f018119eb19561b80c1adef6c5df84174cfc8e65b2dfa01af5145c06ae73b60"), looks := true }, kinds := [], alts := [], laidByText := true, laidKinds := [.data, .data, .data, .data, .sentinel, .sentinel, .pinned], laidTests := true, laidLooks := .later }
def ValuesLastUptoCardSaid : Prop := Claim7.holds Tryz.pinned (.plain (OpenSpec.upto valuesLastSpec)) valuesLastUptoCard

/-- THE SECOND FORM's CARD OF 'mizzenlaw11.ValuesWords'. -/
def valuesWordsUptoCard : Claim7 := { stood := { row := valuesWordsUptoRow, standIns := [], harness := (true, "5f018119eb19561b80c1adef6c5df84174cfc8e65b2dfa01af5145c06ae73b60"), looks := true }, kinds := [], alts := [], laidByText := true, laidKinds := [.data, .data, .data, .data, .sentinel, .sentinel, .pinned], laidTests := true, laidLooks := .later }
def ValuesWordsUptoCardSaid : Prop := Claim7.holds Tryz.pinned (.plain (OpenSpec.upto valuesWordsSpec)) valuesWordsUptoCard
end Rows
end Go.Proofs.YtfnpjakekeojoaaGreatDoor
