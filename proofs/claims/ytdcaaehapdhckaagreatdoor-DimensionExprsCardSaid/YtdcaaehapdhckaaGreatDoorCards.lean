/-
  DERIVED. GIVEN WITH THE SEED: THE CARDS: each row of YtdcaaehapdhckaaGreatDoorRows.lean that lists a variable, with what it lists TIED to the program's text (the seventh form; the later family's looks); each row that meets fmt, with fmt's text TOLD by the authors' own Lean function (tested against real Go, not proved from fmt's source: count such statements apart). THE CARD IS WHAT COUNTS. Prove the row's statement (the work); the ties are given (YtdcaaehapdhckaaGreatDoorTie.lean); close each card by the builder's one call (the guide's Derived/Test/ToyasCard.lean, 'card_holds'). Laid BY PROGRAM, IN A SANDBOX (cutbox-door.mjs). By AI agents, Wed Nov 11 2026. No macro, syntax, notation, axiom, sorry.
-/
import Derived.Test.YtdcaaehapdhckaaGreatDoorRows
import GoSem.ClaimSeven
namespace Go.Proofs.YtdcaaehapdhckaaGreatDoor
namespace Rows

/-- THE TIED CARD OF 'dowellaw37.DimensionNormal'. -/
def dimensionNormalCard : Claim7 := { stood := { row := dimensionNormalRow, standIns := [], harness := (true, "4eb7c01619cfd4cb41fe46941c62347ba51905cab3c5ee4d0c7952bbf490713a"), looks := true }, kinds := [], alts := [], laidByText := true, laidKinds := [.data, .data, .data, .data, .sentinel, .sentinel, .pinned], laidTests := true, laidLooks := .later }
def DimensionNormalCardSaid : Prop := Claim7.holds Tryz.pinned (.plain (OpenSpec.ofChange dimensionNormalSpec)) dimensionNormalCard

/-- THE TIED CARD OF 'dowellaw37.DimensionForms'. -/
def dimensionFormsCard : Claim7 := { stood := { row := dimensionFormsRow, standIns := [], harness := (true, "4eb7c01619cfd4cb41fe46941c62347ba51905cab3c5ee4d0c7952bbf490713a"), looks := true }, kinds := [], alts := [], laidByText := true, laidKinds := [.data, .data, .data, .data, .sentinel, .sentinel, .pinned], laidTests := true, laidLooks := .later }
def DimensionFormsCardSaid : Prop := Claim7.holds Tryz.pinned (.plain (OpenSpec.ofChange dimensionFormsSpec)) dimensionFormsCard

/-- THE TIED CARD OF 'dowellaw37.DimensionExprs'. -/
def dimensionExprsCard : Claim7 := { stood := { row := dimensionExprsRow, standIns := [], harness := (true, "4eb7c01619cfd4cb41fe46941c62347ba51905cab3c5ee4d0c7952bbf490713a"), looks := true }, kinds := [], alts := [], laidByText := true, laidKinds := [.data, .data, .data, .data, .sentinel, .sentinel, .pinned], laidTests := true, laidLooks := .later }
def DimensionExprsCardSaid : Prop := Claim7.holds Tryz.pinned (.plain (OpenSpec.ofChange dimensionExprsSpec)) dimensionExprsCard

/-- THE TIED CARD OF 'dowellaw37.DimensionKeeps'. -/
def dimensionKeepsCard : Claim7 := { stood := { row := dimensionKeepsRow, standIns := [], harness := (true, "4eb7c01619cfd4cb41fe46941c62347ba51905cab3c5ee4d0c7952bbf490713a"), looks := true }, kinds := [], alts := [], laidByText := true, laidKinds := [.data, .data, .data, .data, .sentinel, .sentinel, .pinned], laidTests := true, laidLooks := .later }
def DimensionKeepsCardSaid : Prop := Claim7.holds Tryz.pinned (.plain (OpenSpec.ofChange dimensionKeepsSpec)) dimensionKeepsCard

/-- THE SECOND FORM's CARD OF 'dowellaw37.DimensionNormal'. -/
def dimensionNormalUptoCard : Claim7 := { stood := { row := dimensionNormalUptoRow, standIns := [], harness := (true, "4eb7c01619cfd4cb41fe46941c62347ba51905cab3c5ee4d0c7952bbf490713a"), looks := true }, kinds := [], alts := [], laidByText := true, laidKinds := [.data, .data, .data, .data, .sentinel, .sentinel, .pinned], laidTests := true, laidLooks := .later }
def DimensionNormalUptoCardSaid : Prop := Claim7.holds Tryz.pinned (.plain (OpenSpec.upto dimensionNormalSpec)) dimensionNormalUptoCard

/-- THE SECOND FORM's CARD OF 'dowellaw37.DimensionForms'. -/
def dimensionFormsUptoCard : Claim7 := { stood := { row := dimensionFormsUptoRow, standIns := [], harness := (true, "4eb7c01619cfd4cb41fe46941c62347ba51905cab3c5ee4d0c7952bbf490713a"), looks := true }, kinds := [], alts := [], laidByText := true, laidKinds := [.data, .data, .data, .data, .sentinel, .sentinel, .pinned], laidTests := true, laidLooks := .later }
def DimensionFormsUptoCardSaid : Prop := Claim7.holds Tryz.pinned (.plain (OpenSpec.upto dimensionFormsSpec)) dimensionFormsUptoCard

/-- THE SECOND FORM's CARD OF 'dowellaw37.DimensionExprs'. -/
def dimensionExprsUptoCard : Claim7 := { stood := { row := dimensionExprsUptoRow, standIns := [], harness := (true, "4eb7c01619cfd4cb41fe46941c62347ba51905cab3c5ee4d0c7952bbf490713a"), looks := true }, kinds := [], alts := [], laidByText := true, laidKinds := [.data, .data, .data, .data, .sentinel, .sentinel, .pinned], laidTests := true, laidLooks := .later }
def DimensionExprsUptoCardSaid : Prop := Claim7.holds Tryz.pinned (.plain (OpenSpec.upto dimensionExprsSpec)) dimensionExprsUptoCard

/-- THE SECOND FORM's CARD OF 'dowellaw37.DimensionKeeps'. -/
def dimensionKeepsUptoCard : Claim7 := { stood := { row := dimensionKeepsUptoRow, standIns := [], harness := (true, "4eb7c01619cfd4cb41fe46941c62347ba51905cab3c5ee4d0c7952bbf490713a"), looks := true }, kinds := [], alts := [], laidByText := true, laidKinds := [.data, .data, .data, .data, .sentinel, .sentinel, .pinned], laidTests := true, laidLooks := .later }
def DimensionKeepsUptoCardSaid : Prop := Claim7.holds Tryz.pinned (.plain (OpenSpec.upto dimensionKeepsSpec)) dimensionKeepsUptoCard
end Rows
end Go.Proofs.YtdcaaehapdhckaaGreatDoor
