/-
  DERIVED. GIVEN WITH THE SEED: THE CARDS: each row of YtgekcnpfflhpkaaGreatDoorRows.lean that lists a variable, with what it lists TIED to the program's text (the seventh form; the later family's looks); each row that meets fmt, with fmt's text TOLD by the authors' own Lean function (tested against real Go, not proved from fmt's source: count such statements apart). THE CARD IS WHAT COUNTS. Prove the row's statement (the work); the ties are given (YtgekcnpfflhpkaaGreatDoorTie.lean); close each card by the builder's one call (the guide's Derived/Test/ToyasCard.lean, 'card_holds'). Laid BY PROGRAM, IN A SANDBOX (cutbox-door.mjs). By AI agents, Wed Nov 11 2026. No macro, syntax, notation, axiom, sorry.
-/
import Derived.Test.YtgekcnpfflhpkaaGreatDoorRows
import GoSem.ClaimSeven
namespace Go.Proofs.YtgekcnpfflhpkaaGreatDoor
namespace Rows

/-- THE TIED CARD OF 'mizzenlaw05.YamlWrong'. -/
def yamlWrongCard : Claim7 := { stood := { row := yamlWrongRow, standIns := [], harness := (true, "5b6794f89fe607fd9ff37c20831668047b9297987557b4edcf5bd75b7054383c"), looks := true }, kinds := [], alts := [], laidByText := true, laidKinds := [.data, .data, .data, .data, .sentinel, .sentinel, .pinned], laidTests := true, laidLooks := .later }
def YamlWrongCardSaid : Prop := Claim7.holds Tryz.pinned (.plain (OpenSpec.ofChange yamlWrongSpec)) yamlWrongCard

/-- THE TIED CARD OF 'mizzenlaw05.YamlNotes'. -/
def yamlNotesCard : Claim7 := { stood := { row := yamlNotesRow, standIns := [], harness := (true, "5b6794f89fe607fd9ff37c20831668047b9297987557b4edcf5bd75b7054383c"), looks := true }, kinds := [], alts := [], laidByText := true, laidKinds := [.data, .data, .data, .data, .sentinel, .sentinel, .pinned], laidTests := true, laidLooks := .later }
def YamlNotesCardSaid : Prop := Claim7.holds Tryz.pinned (.plain (OpenSpec.ofChange yamlNotesSpec)) yamlNotesCard

/-- THE TIED CARD OF 'mizzenlaw05.YamlNests'. -/
def yamlNestsCard : Claim7 := { stood := { row := yamlNestsRow, standIns := [], harness := (true, "5b6794f89fe607fd9ff37c20831668047b9297987557b4edcf5bd75b7054383c"), looks := true }, kinds := [], alts := [], laidByText := true, laidKinds := [.data, .data, .data, .data, .sentinel, .sentinel, .pinned], laidTests := true, laidLooks := .later }
def YamlNestsCardSaid : Prop := Claim7.holds Tryz.pinned (.plain (OpenSpec.ofChange yamlNestsSpec)) yamlNestsCard

/-- THE TIED CARD OF 'mizzenlaw05.YamlDocs'. -/
def yamlDocsCard : Claim7 := { stood := { row := yamlDocsRow, standIns := [], harness := (true, "5b6794f89fe607fd9ff37c20831668047b9297987557b4edcf5bd75b7054383c"), looks := true }, kinds := [], alts := [], laidByText := true, laidKinds := [.data, .data, .data, .data, .sentinel, .sentinel, .pinned], laidTests := true, laidLooks := .later }
def YamlDocsCardSaid : Prop := Claim7.holds Tryz.pinned (.plain (OpenSpec.ofChange yamlDocsSpec)) yamlDocsCard

/-- THE TIED CARD OF 'mizzenlaw05.YamlWrites'. -/
def yamlWritesCard : Claim7 := { stood := { row := yamlWritesRow, standIns := [], harness := (true, "5b6794f89fe607fd9ff37c20831668047b9297987557b4edcf5bd75b7054383c"), looks := true }, kinds := [], alts := [], laidByText := true, laidKinds := [.data, .data, .data, .data, .sentinel, .sentinel, .pinned], laidTests := true, laidLooks := .later }
def YamlWritesCardSaid : Prop := Claim7.holds Tryz.pinned (.plain (OpenSpec.ofChange yamlWritesSpec)) yamlWritesCard

/-- THE TIED CARD OF 'mizzenlaw05.YamlApart'. -/
def yamlApartCard : Claim7 := { stood := { row := yamlApartRow, standIns := [], harness := (true, "5b6794f89fe607fd9ff37c20831668047b9297987557b4edcf5bd75b7054383c"), looks := true }, kinds := [], alts := [], laidByText := true, laidKinds := [.data, .data, .data, .data, .sentinel, .sentinel, .pinned], laidTests := true, laidLooks := .later }
def YamlApartCardSaid : Prop := Claim7.holds Tryz.pinned (.plain (OpenSpec.ofChange yamlApartSpec)) yamlApartCard

/-- THE SECOND FORM's CARD OF 'mizzenlaw05.YamlWrong'. -/
def yamlWrongUptoCard : Claim7 := { stood := { row := yamlWrongUptoRow, standIns := [], harness := (true, "5b6794f89fe607fd9ff37c20831668047b9297987557b4edcf5bd75b7054383c"), looks := true }, kinds := [], alts := [], laidByText := true, laidKinds := [.data, .data, .data, .data, .sentinel, .sentinel, .pinned], laidTests := true, laidLooks := .later }
def YamlWrongUptoCardSaid : Prop := Claim7.holds Tryz.pinned (.plain (OpenSpec.upto yamlWrongSpec)) yamlWrongUptoCard

/-- THE SECOND FORM's CARD OF 'mizzenlaw05.YamlNotes'. -/
def yamlNotesUptoCard : Claim7 := { stood := { row := yamlNotesUptoRow, standIns := [], harness := (true, "5b6794f89fe607fd9ff37c20831668047b9297987557b4edcf5bd75b7054383c"), looks := true }, kinds := [], alts := [], laidByText := true, laidKinds := [.data, .data, .data, .data, .sentinel, .sentinel, .pinned], laidTests := true, laidLooks := .later }
def YamlNotesUptoCardSaid : Prop := Claim7.holds Tryz.pinned (.plain (OpenSpec.upto yamlNotesSpec)) yamlNotesUptoCard

/-- THE SECOND FORM's CARD OF 'mizzenlaw05.YamlNests'. -/
def yamlNestsUptoCard : Claim7 := { stood := { row := yamlNestsUptoRow, standIns := [], harness := (true, "5b6794f89fe607fd9ff37c20831668047b9297987557b4edcf5bd75b7054383c"), looks := true }, kinds := [], alts := [], laidByText := true, laidKinds := [.data, .data, .data, .data, .sentinel, .sentinel, .pinned], laidTests := true, laidLooks := .later }
def YamlNestsUptoCardSaid : Prop := Claim7.holds Tryz.pinned (.plain (OpenSpec.upto yamlNestsSpec)) yamlNestsUptoCard

/-- THE SECOND FORM's CARD OF 'mizzenlaw05.YamlDocs'. -/
def yamlDocsUptoCard : Claim7 := { stood := { row := yamlDocsUptoRow, standIns := [], harness := (true, "5b6794f89fe607fd9ff37c20831668047b9297987557b4edcf5bd75b7054383c"), looks := true }, kinds := [], alts := [], laidByText := true, laidKinds := [.data, .data, .data, .data, .sentinel, .sentinel, .pinned], laidTests := true, laidLooks := .later }
def YamlDocsUptoCardSaid : Prop := Claim7.holds Tryz.pinned (.plain (OpenSpec.upto yamlDocsSpec)) yamlDocsUptoCard

/-- THE SECOND FORM's CARD OF 'mizzenlaw05.YamlWrites'. -/
def yamlWritesUptoCard : Claim7 := { stood := { row := yamlWritesUptoRow, standIns := [], harness := (true, "5b6794f89fe607fd9ff37c20831668047b9297987557b4edcf5bd75b7054383c"), looks := true }, kinds := [], alts := [], laidByText := true, laidKinds := [.data, .data, .data, .data, .sentinel, .sentinel, .pinned], laidTests := true, laidLooks := .later }
def YamlWritesUptoCardSaid : Prop := Claim7.holds Tryz.pinned (.plain (OpenSpec.upto yamlWritesSpec)) yamlWritesUptoCard

/-- THE SECOND FORM's CARD OF 'mizzenlaw05.YamlApart'. -/
def yamlApartUptoCard : Claim7 := { stood := { row := yamlApartUptoRow, standIns := [], harness := (true, "5b6794f89fe607fd9ff37c20831668047b9297987557b4edcf5bd75b7054383c"), looks := true }, kinds := [], alts := [], laidByText := true, laidKinds := [.data, .data, .data, .data, .sentinel, .sentinel, .pinned], laidTests := true, laidLooks := .later }
def YamlApartUptoCardSaid : Prop := Claim7.holds Tryz.pinned (.plain (OpenSpec.upto yamlApartSpec)) yamlApartUptoCard
end Rows
end Go.Proofs.YtgekcnpfflhpkaaGreatDoor
