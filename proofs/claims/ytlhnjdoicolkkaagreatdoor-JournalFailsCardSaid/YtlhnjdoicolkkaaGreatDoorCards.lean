/-
  DERIVED. GIVEN WITH THE SEED: THE CARDS: each row of YtlhnjdoicolkkaaGreatDoorRows.lean that lists a variable, with what it lists TIED to the program's text (the seventh form; the later family's looks); each row that meets fmt, with fmt's text TOLD by the authors' own Lean function (tested against real Go, not proved from fmt's source: count such statements apart). THE CARD IS WHAT COUNTS. Prove the row's statement (the work); the ties are given (YtlhnjdoicolkkaaGreatDoorTie.lean); close each card by the builder's one call (the guide's Derived/Test/ToyasCard.lean, 'card_holds'). Laid BY PROGRAM, IN A SANDBOX (cutbox-door.mjs). By AI agents, Wed Nov 11 2026. No macro, syntax, notation, axiom, sorry.
-/
import Derived.Test.YtlhnjdoicolkkaaGreatDoorRows
import GoSem.ClaimSeven
namespace Go.Proofs.YtlhnjdoicolkkaaGreatDoor
namespace Rows

/-- THE TIED CARD OF 'dowellaw52.JournalScans'. -/
def journalScansCard : Claim7 := { stood := { row := journalScansRow, standIns := [], harness := (true, "9226e76b375c3dd367c15bf90ef25b79ee5b65a75422e52fbd7346b60984c0f6"), looks := true }, kinds := [], alts := [], laidByText := true, laidKinds := [.data, .data, .data, .sentinel, .sentinel], laidTests := true, laidLooks := .later }
def JournalScansCardSaid : Prop := Claim7.holds Tryz.pinned (.plain (OpenSpec.ofChange journalScansSpec)) journalScansCard

/-- THE TIED CARD OF 'dowellaw52.JournalEnds'. -/
def journalEndsCard : Claim7 := { stood := { row := journalEndsRow, standIns := [], harness := (true, "9226e76b375c3dd367c15bf90ef25b79ee5b65a75422e52fbd7346b60984c0f6"), looks := true }, kinds := [], alts := [], laidByText := true, laidKinds := [.data, .data, .data, .sentinel, .sentinel], laidTests := true, laidLooks := .later }
def JournalEndsCardSaid : Prop := Claim7.holds Tryz.pinned (.plain (OpenSpec.ofChange journalEndsSpec)) journalEndsCard

/-- THE TIED CARD OF 'dowellaw52.JournalFrames'. -/
def journalFramesCard : Claim7 := { stood := { row := journalFramesRow, standIns := [], harness := (true, "9226e76b375c3dd367c15bf90ef25b79ee5b65a75422e52fbd7346b60984c0f6"), looks := true }, kinds := [], alts := [], laidByText := true, laidKinds := [.data, .data, .data, .sentinel, .sentinel], laidTests := true, laidLooks := .later }
def JournalFramesCardSaid : Prop := Claim7.holds Tryz.pinned (.plain (OpenSpec.ofChange journalFramesSpec)) journalFramesCard

/-- THE TIED CARD OF 'dowellaw52.JournalFull'. -/
def journalFullCard : Claim7 := { stood := { row := journalFullRow, standIns := [], harness := (true, "9226e76b375c3dd367c15bf90ef25b79ee5b65a75422e52fbd7346b60984c0f6"), looks := true }, kinds := [], alts := [], laidByText := true, laidKinds := [.data, .data, .data, .sentinel, .sentinel], laidTests := true, laidLooks := .later }
def JournalFullCardSaid : Prop := Claim7.holds Tryz.pinned (.plain (OpenSpec.ofChange journalFullSpec)) journalFullCard

/-- THE TIED CARD OF 'dowellaw52.JournalNames'. -/
def journalNamesCard : Claim7 := { stood := { row := journalNamesRow, standIns := [], harness := (true, "9226e76b375c3dd367c15bf90ef25b79ee5b65a75422e52fbd7346b60984c0f6"), looks := true }, kinds := [], alts := [], laidByText := true, laidKinds := [.data, .data, .data, .sentinel, .sentinel], laidTests := true, laidLooks := .later }
def JournalNamesCardSaid : Prop := Claim7.holds Tryz.pinned (.plain (OpenSpec.ofChange journalNamesSpec)) journalNamesCard

/-- THE TIED CARD OF 'dowellaw52.JournalRuns'. -/
def journalRunsCard : Claim7 := { stood := { row := journalRunsRow, standIns := [], harness := (true, "9226e76b375c3dd367c15bf90ef25b79ee5b65a75422e52fbd7346b60984c0f6"), looks := true }, kinds := [], alts := [], laidByText := true, laidKinds := [.data, .data, .data, .sentinel, .sentinel], laidTests := true, laidLooks := .later }
def JournalRunsCardSaid : Prop := Claim7.holds Tryz.pinned (.plain (OpenSpec.ofChange journalRunsSpec)) journalRunsCard

/-- THE TIED CARD OF 'dowellaw52.JournalSurvives'. -/
def journalSurvivesCard : Claim7 := { stood := { row := journalSurvivesRow, standIns := [], harness := (true, "9226e76b375c3dd367c15bf90ef25b79ee5b65a75422e52fbd7346b60984c0f6"), looks := true }, kinds := [], alts := [], laidByText := true, laidKinds := [.data, .data, .data, .sentinel, .sentinel], laidTests := true, laidLooks := .later }
def JournalSurvivesCardSaid : Prop := Claim7.holds Tryz.pinned (.plain (OpenSpec.ofChange journalSurvivesSpec)) journalSurvivesCard

/-- THE TIED CARD OF 'dowellaw52.JournalFails'. -/
def journalFailsCard : Claim7 := { stood := { row := journalFailsRow, standIns := [], harness := (true, "9226e76b375c3dd367c15bf90ef25b79ee5b65a75422e52fbd7346b60984c0f6"), looks := true }, kinds := [], alts := [], laidByText := true, laidKinds := [.data, .data, .data, .sentinel, .sentinel], laidTests := true, laidLooks := .later }
def JournalFailsCardSaid : Prop := Claim7.holds Tryz.pinned (.plain (OpenSpec.ofChange journalFailsSpec)) journalFailsCard

/-- THE SECOND FORM's CARD OF 'dowellaw52.JournalScans'. -/
def journalScansUptoCard : Claim7 := { stood := { row := journalScansUptoRow, standIns := [], harness := (true, "9226e76b375c3dd367c15bf90ef25b79ee5b65a75422e52fbd7346b60984c0f6"), looks := true }, kinds := [], alts := [], laidByText := true, laidKinds := [.data, .data, .data, .sentinel, .sentinel], laidTests := true, laidLooks := .later }
def JournalScansUptoCardSaid : Prop := Claim7.holds Tryz.pinned (.plain (OpenSpec.upto journalScansSpec)) journalScansUptoCard

/-- THE SECOND FORM's CARD OF 'dowellaw52.JournalEnds'. -/
def journalEndsUptoCard : Claim7 := { stood := { row := journalEndsUptoRow, standIns := [], harness := (true, "9226e76b375c3dd367c15bf90ef25b79ee5b65a75422e52fbd7346b60984c0f6"), looks := true }, kinds := [], alts := [], laidByText := true, laidKinds := [.data, .data, .data, .sentinel, .sentinel], laidTests := true, laidLooks := .later }
def JournalEndsUptoCardSaid : Prop := Claim7.holds Tryz.pinned (.plain (OpenSpec.upto journalEndsSpec)) journalEndsUptoCard

/-- THE SECOND FORM's CARD OF 'dowellaw52.JournalFrames'. -/
def journalFramesUptoCard : Claim7 := { stood := { row := journalFramesUptoRow, standIns := [], harness := (true, "9226e76b375c3dd367c15bf90ef25b79ee5b65a75422e52fbd7346b60984c0f6"), looks := true }, kinds := [], alts := [], laidByText := true, laidKinds := [.data, .data, .data, .sentinel, .sentinel], laidTests := true, laidLooks := .later }
def JournalFramesUptoCardSaid : Prop := Claim7.holds Tryz.pinned (.plain (OpenSpec.upto journalFramesSpec)) journalFramesUptoCard

/-- THE SECOND FORM's CARD OF 'dowellaw52.JournalFull'. -/
def journalFullUptoCard : Claim7 := { stood := { row := journalFullUptoRow, standIns := [], harness := (true, "9226e76b375c3dd367c15bf90ef25b79ee5b65a75422e52fbd7346b60984c0f6"), looks := true }, kinds := [], alts := [], laidByText := true, laidKinds := [.data, .data, .data, .sentinel, .sentinel], laidTests := true, laidLooks := .later }
def JournalFullUptoCardSaid : Prop := Claim7.holds Tryz.pinned (.plain (OpenSpec.upto journalFullSpec)) journalFullUptoCard

/-- THE SECOND FORM's CARD OF 'dowellaw52.JournalNames'. -/
def journalNamesUptoCard : Claim7 := { stood := { row := journalNamesUptoRow, standIns := [], harness := (true, "9226e76b375c3dd367c15bf90ef25b79ee5b65a75422e52fbd7346b60984c0f6"), looks := true }, kinds := [], alts := [], laidByText := true, laidKinds := [.data, .data, .data, .sentinel, .sentinel], laidTests := true, laidLooks := .later }
def JournalNamesUptoCardSaid : Prop := Claim7.holds Tryz.pinned (.plain (OpenSpec.upto journalNamesSpec)) journalNamesUptoCard

/-- THE SECOND FORM's CARD OF 'dowellaw52.JournalRuns'. -/
def journalRunsUptoCard : Claim7 := { stood := { row := journalRunsUptoRow, standIns := [], harness := (true, "9226e76b375c3dd367c15bf90ef25b79ee5b65a75422e52fbd7346b60984c0f6"), looks := true }, kinds := [], alts := [], laidByText := true, laidKinds := [.data, .data, .data, .sentinel, .sentinel], laidTests := true, laidLooks := .later }
def JournalRunsUptoCardSaid : Prop := Claim7.holds Tryz.pinned (.plain (OpenSpec.upto journalRunsSpec)) journalRunsUptoCard

/-- THE SECOND FORM's CARD OF 'dowellaw52.JournalSurvives'. -/
def journalSurvivesUptoCard : Claim7 := { stood := { row := journalSurvivesUptoRow, standIns := [], harness := (true, "9226e76b375c3dd367c15bf90ef25b79ee5b65a75422e52fbd7346b60984c0f6"), looks := true }, kinds := [], alts := [], laidByText := true, laidKinds := [.data, .data, .data, .sentinel, .sentinel], laidTests := true, laidLooks := .later }
def JournalSurvivesUptoCardSaid : Prop := Claim7.holds Tryz.pinned (.plain (OpenSpec.upto journalSurvivesSpec)) journalSurvivesUptoCard

/-- THE SECOND FORM's CARD OF 'dowellaw52.JournalFails'. -/
def journalFailsUptoCard : Claim7 := { stood := { row := journalFailsUptoRow, standIns := [], harness := (true, "9226e76b375c3dd367c15bf90ef25b79ee5b65a75422e52fbd7346b60984c0f6"), looks := true }, kinds := [], alts := [], laidByText := true, laidKinds := [.data, .data, .data, .sentinel, .sentinel], laidTests := true, laidLooks := .later }
def JournalFailsUptoCardSaid : Prop := Claim7.holds Tryz.pinned (.plain (OpenSpec.upto journalFailsSpec)) journalFailsUptoCard
end Rows
end Go.Proofs.YtlhnjdoicolkkaaGreatDoor
