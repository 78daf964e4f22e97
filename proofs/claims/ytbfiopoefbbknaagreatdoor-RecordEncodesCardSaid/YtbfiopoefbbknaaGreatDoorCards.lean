/-
  DERIVED. GIVEN WITH THE SEED: THE CARDS: each row of YtbfiopoefbbknaaGreatDoorRows.lean that lists a variable, with what it lists TIED to the program's text (the seventh form; the later family's looks); each row that meets fmt, with fmt's text TOLD by the authors' own Lean function (tested against real Go, not proved from fmt's source: count such statements apart). THE CARD IS WHAT COUNTS. Prove the row's statement (the work); the ties are given (YtbfiopoefbbknaaGreatDoorTie.lean); close each card by the builder's one call (the guide's Derived/Test/ToyasCard.lean, 'card_holds'). Laid BY PROGRAM, IN A SANDBOX (cutbox-door.mjs). By AI agents, Wed Nov 11 2026. No macro, syntax, notation, axiom, sorry.
-/
import Derived.Test.YtbfiopoefbbknaaGreatDoorRows
import GoSem.ClaimSeven
namespace Go.Proofs.YtbfiopoefbbknaaGreatDoor
namespace Rows

/-- THE TIED CARD OF 'mizzenlaw22.BundlePacks'. -/
def bundlePacksCard : Claim7 := { stood := { row := bundlePacksRow, standIns := [], harness := (true, "de6f990697f8e0051a2140869eb653278d46cb272ee7fe59512e7fc653332fdf"), looks := true }, kinds := [], alts := [], laidByText := true, laidKinds := [.data, .data, .data, .data, .sentinel, .sentinel, .pinned], laidTests := true, laidLooks := .later }
def BundlePacksCardSaid : Prop := Claim7.holds Tryz.pinned (.plain (OpenSpec.ofChange bundlePacksSpec)) bundlePacksCard

/-- THE TIED CARD OF 'mizzenlaw22.BundleReads'. -/
def bundleReadsCard : Claim7 := { stood := { row := bundleReadsRow, standIns := [], harness := (true, "de6f990697f8e0051a2140869eb653278d46cb272ee7fe59512e7fc653332fdf"), looks := true }, kinds := [], alts := [], laidByText := true, laidKinds := [.data, .data, .data, .data, .sentinel, .sentinel, .pinned], laidTests := true, laidLooks := .later }
def BundleReadsCardSaid : Prop := Claim7.holds Tryz.pinned (.plain (OpenSpec.ofChange bundleReadsSpec)) bundleReadsCard

/-- THE TIED CARD OF 'mizzenlaw17.RecordEncodes'. -/
def recordEncodesCard : Claim7 := { stood := { row := recordEncodesRow, standIns := [], harness := (true, "de6f990697f8e0051a2140869eb653278d46cb272ee7fe59512e7fc653332fdf"), looks := true }, kinds := [], alts := [], laidByText := true, laidKinds := [.data, .data, .data, .data, .sentinel, .sentinel, .pinned], laidTests := true, laidLooks := .later }
def RecordEncodesCardSaid : Prop := Claim7.holds Tryz.pinned (.plain (OpenSpec.ofChange recordEncodesSpec)) recordEncodesCard

/-- THE SECOND FORM's CARD OF 'mizzenlaw22.BundlePacks'. -/
def bundlePacksUptoCard : Claim7 := { stood := { row := bundlePacksUptoRow, standIns := [], harness := (true, "de6f990697f8e0051a2140869eb653278d46cb272ee7fe59512e7fc653332fdf"), looks := true }, kinds := [], alts := [], laidByText := true, laidKinds := [.data, .data, .data, .data, .sentinel, .sentinel, .pinned], laidTests := true, laidLooks := .later }
def BundlePacksUptoCardSaid : Prop := Claim7.holds Tryz.pinned (.plain (OpenSpec.upto bundlePacksSpec)) bundlePacksUptoCard

/-- THE SECOND FORM's CARD OF 'mizzenlaw22.BundleReads'. -/
def bundleReadsUptoCard : Claim7 := { stood := { row := bundleReadsUptoRow, standIns := [], harness := (true, "de6f990697f8e0051a2140869eb653278d46cb272ee7fe59512e7fc653332fdf"), looks := true }, kinds := [], alts := [], laidByText := true, laidKinds := [.data, .data, .data, .data, .sentinel, .sentinel, .pinned], laidTests := true, laidLooks := .later }
def BundleReadsUptoCardSaid : Prop := Claim7.holds Tryz.pinned (.plain (OpenSpec.upto bundleReadsSpec)) bundleReadsUptoCard

/-- THE SECOND FORM's CARD OF 'mizzenlaw17.RecordEncodes'. -/
def recordEncodesUptoCard : Claim7 := { stood := { row := recordEncodesUptoRow, standIns := [], harness := (true, "de6f990697f8e0051a2140869eb653278d46cb272ee7fe59512e7fc653332fdf"), looks := true }, kinds := [], alts := [], laidByText := true, laidKinds := [.data, .data, .data, .data, .sentinel, .sentinel, .pinned], laidTests := true, laidLooks := .later }
def RecordEncodesUptoCardSaid : Prop := Claim7.holds Tryz.pinned (.plain (OpenSpec.upto recordEncodesSpec)) recordEncodesUptoCard
end Rows
end Go.Proofs.YtbfiopoefbbknaaGreatDoor
