/-
  DERIVED. GIVEN WITH THE SEED: THE CARDS: each row of YtamecdecpmklmaaDoorRows.lean that lists a variable, with what it lists TIED to the program's text (the seventh form; the later family's looks); each row that meets fmt, with fmt's text TOLD by the authors' own Lean function (tested against real Go, not proved from fmt's source: count such statements apart). THE CARD IS WHAT COUNTS. Prove the row's statement (the work); the ties are given (YtamecdecpmklmaaDoorTie.lean); close each card by the builder's one call (the guide's Derived/Test/ToyasCard.lean, 'card_holds'). Laid BY PROGRAM, IN A SANDBOX (cutbox-door.mjs). By AI agents, Wed Nov 11 2026. No macro, syntax, notation, axiom, sorry.
-/
import Derived.Test.YtamecdecpmklmaaDoorRows
import GoSem.ClaimSeven
namespace Go.Proofs.YtamecdecpmklmaaDoor
namespace Rows

/-- THE TIED CARD OF 'mizzenlaw23.ReportWords'. -/
def reportWordsCard : Claim7 := { stood := { row := reportWordsRow, standIns := [], harness := (true, "c3daf6507485e08ab62c213f9fb422d230ba0435e8c4191210c5bc6025415f22"), looks := true }, kinds := [], alts := [], laidByText := true, laidKinds := [.data, .data, .data, .data, .data, .data], laidTests := true, laidLooks := .later }
def ReportWordsCardSaid : Prop := Claim7.holds Tryd.pinned (.plain (OpenSpec.ofChange reportWordsSpec)) reportWordsCard

/-- THE SECOND FORM's CARD OF 'mizzenlaw23.ReportWords'. -/
def reportWordsUptoCard : Claim7 := { stood := { row := reportWordsUptoRow, standIns := [], harness := (true, "c3daf6507485e08ab62c213f9fb422d230ba0435e8c4191210c5bc6025415f22"), looks := true }, kinds := [], alts := [], laidByText := true, laidKinds := [.data, .data, .data, .data, .data, .data], laidTests := true, laidLooks := .later }
def ReportWordsUptoCardSaid : Prop := Claim7.holds Tryd.pinned (.plain (OpenSpec.upto reportWordsSpec)) reportWordsUptoCard
end Rows
end Go.Proofs.YtamecdecpmklmaaDoor
