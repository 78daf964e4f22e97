/-
  DERIVED. GIVEN WITH THE SEED: THE CARDS: each row of YtgidajjjpeboeaaGreatDoorRows.lean that lists a variable, with what it lists TIED to the program's text (the seventh form; the later family's looks); each row that meets fmt, with fmt's text TOLD by the authors' own Lean function (tested against real Go, not proved from fmt's source: count such statements apart). THE CARD IS WHAT COUNTS. Prove the row's statement (the work); the ties are given (YtgidajjjpeboeaaGreatDoorTie.lean); close each card by the builder's one call (the guide's Derived/Test/ToyasCard.lean, 'card_holds'). Laid BY PROGRAM, IN A SANDBOX (cutbox-door.mjs). By AI agents, Wed Nov 11 2026. No macro, syntax, notation, axiom, sorry.
-/
import Derived.Test.YtgidajjjpeboeaaGreatDoorRows
import GoSem.ClaimSeven
namespace Go.Proofs.YtgidajjjpeboeaaGreatDoor
namespace Rows

/-- THE TIED CARD OF 'mizzenlaw16.ClusterWrites'. -/
def clusterWritesCard : Claim7 := { stood := { row := clusterWritesRow, standIns := [], harness := (true, "46ae8b202b6f1f2af4b45f3789b31ccace79ec489f56e96202ffa3604f9dc085"), looks := true }, kinds := [], alts := [], laidByText := true, laidKinds := [.widerDeep], laidTests := true, laidLooks := .later }
def ClusterWritesCardSaid : Prop := Claim7.holds Tryz.pinned (.plain (OpenSpec.ofChange clusterWritesSpec)) clusterWritesCard

/-- THE TIED CARD OF 'mizzenlaw18.HistoryLists'. -/
def historyListsCard : Claim7 := { stood := { row := historyListsRow, standIns := [], harness := (true, "46ae8b202b6f1f2af4b45f3789b31ccace79ec489f56e96202ffa3604f9dc085"), looks := true }, kinds := [], alts := [], laidByText := true, laidKinds := [.data, .data, .data, .sentinel, .sentinel, .widerDeep], laidTests := true, laidLooks := .later }
def HistoryListsCardSaid : Prop := Claim7.holds Tryz.pinned (.plain (OpenSpec.ofChange historyListsSpec)) historyListsCard

/-- THE TIED CARD OF 'mizzenlaw18.HistoryReads'. -/
def historyReadsCard : Claim7 := { stood := { row := historyReadsRow, standIns := [], harness := (true, "46ae8b202b6f1f2af4b45f3789b31ccace79ec489f56e96202ffa3604f9dc085"), looks := true }, kinds := [], alts := [], laidByText := true, laidKinds := [.data, .data, .data, .sentinel, .sentinel, .widerDeep], laidTests := true, laidLooks := .later }
def HistoryReadsCardSaid : Prop := Claim7.holds Tryz.pinned (.plain (OpenSpec.ofChange historyReadsSpec)) historyReadsCard

/-- THE SECOND FORM's CARD OF 'mizzenlaw16.ClusterWrites'. -/
def clusterWritesUptoCard : Claim7 := { stood := { row := clusterWritesUptoRow, standIns := [], harness := (true, "46ae8b202b6f1f2af4b45f3789b31ccace79ec489f56e96202ffa3604f9dc085"), looks := true }, kinds := [], alts := [], laidByText := true, laidKinds := [.widerDeep], laidTests := true, laidLooks := .later }
def ClusterWritesUptoCardSaid : Prop := Claim7.holds Tryz.pinned (.plain (OpenSpec.upto clusterWritesSpec)) clusterWritesUptoCard

/-- THE SECOND FORM's CARD OF 'mizzenlaw18.HistoryLists'. -/
def historyListsUptoCard : Claim7 := { stood := { row := historyListsUptoRow, standIns := [], harness := (true, "46ae8b202b6f1f2af4b45f3789b31ccace79ec489f56e96202ffa3604f9dc085"), looks := true }, kinds := [], alts := [], laidByText := true, laidKinds := [.data, .data, .data, .sentinel, .sentinel, .widerDeep], laidTests := true, laidLooks := .later }
def HistoryListsUptoCardSaid : Prop := Claim7.holds Tryz.pinned (.plain (OpenSpec.upto historyListsSpec)) historyListsUptoCard

/-- THE SECOND FORM's CARD OF 'mizzenlaw18.HistoryReads'. -/
def historyReadsUptoCard : Claim7 := { stood := { row := historyReadsUptoRow, standIns := [], harness := (true, "46ae8b202b6f1f2af4b45f3789b31ccace79ec489f56e96202ffa3604f9dc085"), looks := true }, kinds := [], alts := [], laidByText := true, laidKinds := [.data, .data, .data, .sentinel, .sentinel, .widerDeep], laidTests := true, laidLooks := .later }
def HistoryReadsUptoCardSaid : Prop := Claim7.holds Tryz.pinned (.plain (OpenSpec.upto historyReadsSpec)) historyReadsUptoCard
end Rows
end Go.Proofs.YtgidajjjpeboeaaGreatDoor
