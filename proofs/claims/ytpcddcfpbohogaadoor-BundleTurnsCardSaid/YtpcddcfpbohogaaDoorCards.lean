/-
  DERIVED. GIVEN WITH THE SEED: THE CARDS: each row of YtpcddcfpbohogaaDoorRows.lean that lists a variable, with what it lists TIED to the program's text (the seventh form; the later family's looks); each row that meets fmt, with fmt's text TOLD by the authors' own Lean function (tested against real Go, not proved from fmt's source: count such statements apart). THE CARD IS WHAT COUNTS. Prove the row's statement (the work); the ties are given (YtpcddcfpbohogaaDoorTie.lean); close each card by the builder's one call (the guide's Derived/Test/ToyasCard.lean, 'card_holds'). Laid BY PROGRAM, IN A SANDBOX (cutbox-door.mjs). By AI agents, Wed Nov 11 2026. No macro, syntax, notation, axiom, sorry.
-/
import Derived.Test.YtpcddcfpbohogaaDoorRows
import GoSem.ClaimSeven
namespace Go.Proofs.YtpcddcfpbohogaaDoor
namespace Rows

/-- THE TIED CARD OF 'mizzenlaw17.RecordOwners'. -/
def recordOwnersCard : Claim7 := { stood := { row := recordOwnersRow, standIns := [], harness := (true, "8dd5eff82625c97d6130a237bf610d0392d7cfa6d4461615b2ea7e7f3cca4aa8"), looks := true }, kinds := [], alts := [], laidByText := true, laidKinds := [.data, .data, .data, .sentinel, .sentinel], laidTests := true, laidLooks := .later }
def RecordOwnersCardSaid : Prop := Claim7.holds Tryd.pinned (.plain (OpenSpec.ofChange recordOwnersSpec)) recordOwnersCard

/-- THE TIED CARD OF 'mizzenlaw22.BundleTurns'. -/
def bundleTurnsCard : Claim7 := { stood := { row := bundleTurnsRow, standIns := [], harness := (true, "8dd5eff82625c97d6130a237bf610d0392d7cfa6d4461615b2ea7e7f3cca4aa8"), looks := true }, kinds := [], alts := [], laidByText := true, laidKinds := [.data, .data, .data, .data, .pinned], laidTests := true, laidLooks := .later }
def BundleTurnsCardSaid : Prop := Claim7.holds Tryd.pinned (.plain (OpenSpec.ofChange bundleTurnsSpec)) bundleTurnsCard

/-- THE TIED CARD OF 'mizzenlaw22.BundleFolders'. -/
def bundleFoldersCard : Claim7 := { stood := { row := bundleFoldersRow, standIns := [], harness := (true, "8dd5eff82625c97d6130a237bf610d0392d7cfa6d4461615b2ea7e7f3cca4aa8"), looks := true }, kinds := [], alts := [], laidByText := true, laidKinds := [.data, .data, .data, .data, .pinned], laidTests := true, laidLooks := .later }
def BundleFoldersCardSaid : Prop := Claim7.holds Tryd.pinned (.plain (OpenSpec.ofChange bundleFoldersSpec)) bundleFoldersCard

/-- THE TIED CARD OF 'mizzenlaw22.BundleFoldersTwice'. -/
def bundleFoldersTwiceCard : Claim7 := { stood := { row := bundleFoldersTwiceRow, standIns := [], harness := (true, "8dd5eff82625c97d6130a237bf610d0392d7cfa6d4461615b2ea7e7f3cca4aa8"), looks := true }, kinds := [], alts := [], laidByText := true, laidKinds := [.data, .data, .data, .data, .pinned], laidTests := true, laidLooks := .later }
def BundleFoldersTwiceCardSaid : Prop := Claim7.holds Tryd.pinned (.plain (OpenSpec.ofChange bundleFoldersTwiceSpec)) bundleFoldersTwiceCard

/-- THE SECOND FORM's CARD OF 'mizzenlaw17.RecordOwners'. -/
def recordOwnersUptoCard : Claim7 := { stood := { row := recordOwnersUptoRow, standIns := [], harness := (true, "8dd5eff82625c97d6130a237bf610d0392d7cfa6d4461615b2ea7e7f3cca4aa8"), looks := true }, kinds := [], alts := [], laidByText := true, laidKinds := [.data, .data, .data, .sentinel, .sentinel], laidTests := true, laidLooks := .later }
def RecordOwnersUptoCardSaid : Prop := Claim7.holds Tryd.pinned (.plain (OpenSpec.upto recordOwnersSpec)) recordOwnersUptoCard

/-- THE SECOND FORM's CARD OF 'mizzenlaw22.BundleTurns'. -/
def bundleTurnsUptoCard : Claim7 := { stood := { row := bundleTurnsUptoRow, standIns := [], harness := (true, "8dd5eff82625c97d6130a237bf610d0392d7cfa6d4461615b2ea7e7f3cca4aa8"), looks := true }, kinds := [], alts := [], laidByText := true, laidKinds := [.data, .data, .data, .data, .pinned], laidTests := true, laidLooks := .later }
def BundleTurnsUptoCardSaid : Prop := Claim7.holds Tryd.pinned (.plain (OpenSpec.upto bundleTurnsSpec)) bundleTurnsUptoCard

/-- THE SECOND FORM's CARD OF 'mizzenlaw22.BundleFolders'. -/
def bundleFoldersUptoCard : Claim7 := { stood := { row := bundleFoldersUptoRow, standIns := [], harness := (true, "8dd5eff82625c97d6130a237bf610d0392d7cfa6d4461615b2ea7e7f3cca4aa8"), looks := true }, kinds := [], alts := [], laidByText := true, laidKinds := [.data, .data, .data, .data, .pinned], laidTests := true, laidLooks := .later }
def BundleFoldersUptoCardSaid : Prop := Claim7.holds Tryd.pinned (.plain (OpenSpec.upto bundleFoldersSpec)) bundleFoldersUptoCard

/-- THE SECOND FORM's CARD OF 'mizzenlaw22.BundleFoldersTwice'. -/
def bundleFoldersTwiceUptoCard : Claim7 := { stood := { row := bundleFoldersTwiceUptoRow, standIns := [], harness := (true, "8dd5eff82625c97d6130a237bf610d0392d7cfa6d4461615b2ea7e7f3cca4aa8"), looks := true }, kinds := [], alts := [], laidByText := true, laidKinds := [.data, .data, .data, .data, .pinned], laidTests := true, laidLooks := .later }
def BundleFoldersTwiceUptoCardSaid : Prop := Claim7.holds Tryd.pinned (.plain (OpenSpec.upto bundleFoldersTwiceSpec)) bundleFoldersTwiceUptoCard
end Rows
end Go.Proofs.YtpcddcfpbohogaaDoor
