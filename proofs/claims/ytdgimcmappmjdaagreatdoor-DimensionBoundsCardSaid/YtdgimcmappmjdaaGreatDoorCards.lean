/-
  DERIVED. GIVEN WITH THE SEED: THE CARDS: each row of YtdgimcmappmjdaaGreatDoorRows.lean that lists a variable, with what it lists TIED to the program's text (the seventh form; the later family's looks); each row that meets fmt, with fmt's text TOLD by the authors' own Lean function (tested against real Go, not proved from fmt's source: count such statements apart). THE CARD IS WHAT COUNTS. Prove the row's statement (the work); the ties are given (YtdgimcmappmjdaaGreatDoorTie.lean); close each card by the builder's one call (the guide's Derived/Test/ToyasCard.lean, 'card_holds'). Laid BY PROGRAM, IN A SANDBOX (cutbox-door.mjs). By AI agents, Wed Nov 11 2026. No macro, syntax, notation, axiom, sorry.
-/
import Derived.Test.YtdgimcmappmjdaaGreatDoorRows
import GoSem.ClaimSeven
namespace Go.Proofs.YtdgimcmappmjdaaGreatDoor
namespace Rows

/-- THE TIED CARD OF 'dowellaw37.DimensionFits'. -/
def dimensionFitsCard : Claim7 := { stood := { row := dimensionFitsRow, standIns := [], harness := (true, "d5b1339519835daedc2f2e08577a4a3d7ddc10e58846def049022f48e2ef3363"), looks := true }, kinds := [], alts := [], laidByText := true, laidKinds := [.data, .data, .data, .data, .sentinel, .sentinel, .pinned], laidTests := true, laidLooks := .later }
def DimensionFitsCardSaid : Prop := Claim7.holds Tryz.pinned (.plain (OpenSpec.ofChange dimensionFitsSpec)) dimensionFitsCard

/-- THE TIED CARD OF 'dowellaw37.DimensionChecks'. -/
def dimensionChecksCard : Claim7 := { stood := { row := dimensionChecksRow, standIns := [], harness := (true, "d5b1339519835daedc2f2e08577a4a3d7ddc10e58846def049022f48e2ef3363"), looks := true }, kinds := [], alts := [], laidByText := true, laidKinds := [.data, .data, .data, .data, .sentinel, .sentinel, .pinned], laidTests := true, laidLooks := .later }
def DimensionChecksCardSaid : Prop := Claim7.holds Tryz.pinned (.plain (OpenSpec.ofChange dimensionChecksSpec)) dimensionChecksCard

/-- THE TIED CARD OF 'dowellaw37.DimensionAttains'. -/
def dimensionAttainsCard : Claim7 := { stood := { row := dimensionAttainsRow, standIns := [], harness := (true, "d5b1339519835daedc2f2e08577a4a3d7ddc10e58846def049022f48e2ef3363"), looks := true }, kinds := [], alts := [], laidByText := true, laidKinds := [.data, .data, .data, .data, .sentinel, .sentinel, .pinned], laidTests := true, laidLooks := .later }
def DimensionAttainsCardSaid : Prop := Claim7.holds Tryz.pinned (.plain (OpenSpec.ofChange dimensionAttainsSpec)) dimensionAttainsCard

/-- THE TIED CARD OF 'dowellaw37.DimensionWithin'. -/
def dimensionWithinCard : Claim7 := { stood := { row := dimensionWithinRow, standIns := [], harness := (true, "d5b1339519835daedc2f2e08577a4a3d7ddc10e58846def049022f48e2ef3363"), looks := true }, kinds := [], alts := [], laidByText := true, laidKinds := [.data, .data, .data, .data, .sentinel, .sentinel, .pinned], laidTests := true, laidLooks := .later }
def DimensionWithinCardSaid : Prop := Claim7.holds Tryz.pinned (.plain (OpenSpec.ofChange dimensionWithinSpec)) dimensionWithinCard

/-- THE TIED CARD OF 'dowellaw37.DimensionNormal'. -/
def dimensionNormalCard : Claim7 := { stood := { row := dimensionNormalRow, standIns := [], harness := (true, "d5b1339519835daedc2f2e08577a4a3d7ddc10e58846def049022f48e2ef3363"), looks := true }, kinds := [], alts := [], laidByText := true, laidKinds := [.data, .data, .data, .data, .sentinel, .sentinel, .pinned], laidTests := true, laidLooks := .later }
def DimensionNormalCardSaid : Prop := Claim7.holds Tryz.pinned (.plain (OpenSpec.ofChange dimensionNormalSpec)) dimensionNormalCard

/-- THE TIED CARD OF 'dowellaw37.DimensionForms'. -/
def dimensionFormsCard : Claim7 := { stood := { row := dimensionFormsRow, standIns := [], harness := (true, "d5b1339519835daedc2f2e08577a4a3d7ddc10e58846def049022f48e2ef3363"), looks := true }, kinds := [], alts := [], laidByText := true, laidKinds := [.data, .data, .data, .data, .sentinel, .sentinel, .pinned], laidTests := true, laidLooks := .later }
def DimensionFormsCardSaid : Prop := Claim7.holds Tryz.pinned (.plain (OpenSpec.ofChange dimensionFormsSpec)) dimensionFormsCard

/-- THE TIED CARD OF 'dowellaw37.DimensionValues'. -/
def dimensionValuesCard : Claim7 := { stood := { row := dimensionValuesRow, standIns := [], harness := (true, "d5b1339519835daedc2f2e08577a4a3d7ddc10e58846def049022f48e2ef3363"), looks := true }, kinds := [], alts := [], laidByText := true, laidKinds := [.data, .data, .data, .data, .sentinel, .sentinel, .pinned], laidTests := true, laidLooks := .later }
def DimensionValuesCardSaid : Prop := Claim7.holds Tryz.pinned (.plain (OpenSpec.ofChange dimensionValuesSpec)) dimensionValuesCard

/-- THE TIED CARD OF 'dowellaw37.DimensionBounds'. -/
def dimensionBoundsCard : Claim7 := { stood := { row := dimensionBoundsRow, standIns := [], harness := (true, "d5b1339519835daedc2f2e08577a4a3d7ddc10e58846def049022f48e2ef3363"), looks := true }, kinds := [], alts := [], laidByText := true, laidKinds := [.data, .data, .data, .data, .sentinel, .sentinel, .pinned], laidTests := true, laidLooks := .later }
def DimensionBoundsCardSaid : Prop := Claim7.holds Tryz.pinned (.plain (OpenSpec.ofChange dimensionBoundsSpec)) dimensionBoundsCard

/-- THE TIED CARD OF 'dowellaw37.DimensionExprs'. -/
def dimensionExprsCard : Claim7 := { stood := { row := dimensionExprsRow, standIns := [], harness := (true, "d5b1339519835daedc2f2e08577a4a3d7ddc10e58846def049022f48e2ef3363"), looks := true }, kinds := [], alts := [], laidByText := true, laidKinds := [.data, .data, .data, .data, .sentinel, .sentinel, .pinned], laidTests := true, laidLooks := .later }
def DimensionExprsCardSaid : Prop := Claim7.holds Tryz.pinned (.plain (OpenSpec.ofChange dimensionExprsSpec)) dimensionExprsCard

/-- THE TIED CARD OF 'dowellaw37.DimensionKeeps'. -/
def dimensionKeepsCard : Claim7 := { stood := { row := dimensionKeepsRow, standIns := [], harness := (true, "d5b1339519835daedc2f2e08577a4a3d7ddc10e58846def049022f48e2ef3363"), looks := true }, kinds := [], alts := [], laidByText := true, laidKinds := [.data, .data, .data, .data, .sentinel, .sentinel, .pinned], laidTests := true, laidLooks := .later }
def DimensionKeepsCardSaid : Prop := Claim7.holds Tryz.pinned (.plain (OpenSpec.ofChange dimensionKeepsSpec)) dimensionKeepsCard

/-- THE SECOND FORM's CARD OF 'dowellaw37.DimensionFits'. -/
def dimensionFitsUptoCard : Claim7 := { stood := { row := dimensionFitsUptoRow, standIns := [], harness := (true, "d5b1339519835daedc2f2e08577a4a3d7ddc10e58846def049022f48e2ef3363"), looks := true }, kinds := [], alts := [], laidByText := true, laidKinds := [.data, .data, .data, .data, .sentinel, .sentinel, .pinned], laidTests := true, laidLooks := .later }
def DimensionFitsUptoCardSaid : Prop := Claim7.holds Tryz.pinned (.plain (OpenSpec.upto dimensionFitsSpec)) dimensionFitsUptoCard

/-- THE SECOND FORM's CARD OF 'dowellaw37.DimensionChecks'. -/
def dimensionChecksUptoCard : Claim7 := { stood := { row := dimensionChecksUptoRow, standIns := [], harness := (true, "d5b1339519835daedc2f2e08577a4a3d7ddc10e58846def049022f48e2ef3363"), looks := true }, kinds := [], alts := [], laidByText := true, laidKinds := [.data, .data, .data, .data, .sentinel, .sentinel, .pinned], laidTests := true, laidLooks := .later }
def DimensionChecksUptoCardSaid : Prop := Claim7.holds Tryz.pinned (.plain (OpenSpec.upto dimensionChecksSpec)) dimensionChecksUptoCard

/-- THE SECOND FORM's CARD OF 'dowellaw37.DimensionAttains'. -/
def dimensionAttainsUptoCard : Claim7 := { stood := { row := dimensionAttainsUptoRow, standIns := [], harness := (true, "d5b1339519835daedc2f2e08577a4a3d7ddc10e58846def049022f48e2ef3363"), looks := true }, kinds := [], alts := [], laidByText := true, laidKinds := [.data, .data, .data, .data, .sentinel, .sentinel, .pinned], laidTests := true, laidLooks := .later }
def DimensionAttainsUptoCardSaid : Prop := Claim7.holds Tryz.pinned (.plain (OpenSpec.upto dimensionAttainsSpec)) dimensionAttainsUptoCard

/-- THE SECOND FORM's CARD OF 'dowellaw37.DimensionWithin'. -/
def dimensionWithinUptoCard : Claim7 := { stood := { row := dimensionWithinUptoRow, standIns := [], harness := (true, "d5b1339519835daedc2f2e08577a4a3d7ddc10e58846def049022f48e2ef3363"), looks := true }, kinds := [], alts := [], laidByText := true, laidKinds := [.data, .data, .data, .data, .sentinel, .sentinel, .pinned], laidTests := true, laidLooks := .later }
def DimensionWithinUptoCardSaid : Prop := Claim7.holds Tryz.pinned (.plain (OpenSpec.upto dimensionWithinSpec)) dimensionWithinUptoCard

/-- THE SECOND FORM's CARD OF 'dowellaw37.DimensionNormal'. -/
def dimensionNormalUptoCard : Claim7 := { stood := { row := dimensionNormalUptoRow, standIns := [], harness := (true, "d5b1339519835daedc2f2e08577a4a3d7ddc10e58846def049022f48e2ef3363"), looks := true }, kinds := [], alts := [], laidByText := true, laidKinds := [.data, .data, .data, .data, .sentinel, .sentinel, .pinned], laidTests := true, laidLooks := .later }
def DimensionNormalUptoCardSaid : Prop := Claim7.holds Tryz.pinned (.plain (OpenSpec.upto dimensionNormalSpec)) dimensionNormalUptoCard

/-- THE SECOND FORM's CARD OF 'dowellaw37.DimensionForms'. -/
def dimensionFormsUptoCard : Claim7 := { stood := { row := dimensionFormsUptoRow, standIns := [], harness := (true, "d5b1339519835daedc2f2e08577a4a3d7ddc10e58846def049022f48e2ef3363"), looks := true }, kinds := [], alts := [], laidByText := true, laidKinds := [.data, .data, .data, .data, .sentinel, .sentinel, .pinned], laidTests := true, laidLooks := .later }
def DimensionFormsUptoCardSaid : Prop := Claim7.holds Tryz.pinned (.plain (OpenSpec.upto dimensionFormsSpec)) dimensionFormsUptoCard

/-- THE SECOND FORM's CARD OF 'dowellaw37.DimensionValues'. -/
def dimensionValuesUptoCard : Claim7 := { stood := { row := dimensionValuesUptoRow, standIns := [], harness := (true, "d5b1339519835daedc2f2e08577a4a3d7ddc10e58846def049022f48e2ef3363"), looks := true }, kinds := [], alts := [], laidByText := true, laidKinds := [.data, .data, .data, .data, .sentinel, .sentinel, .pinned], laidTests := true, laidLooks := .later }
def DimensionValuesUptoCardSaid : Prop := Claim7.holds Tryz.pinned (.plain (OpenSpec.upto dimensionValuesSpec)) dimensionValuesUptoCard

/-- THE SECOND FORM's CARD OF 'dowellaw37.DimensionBounds'. -/
def dimensionBoundsUptoCard : Claim7 := { stood := { row := dimensionBoundsUptoRow, standIns := [], harness := (true, "d5b1339519835daedc2f2e08577a4a3d7ddc10e58846def049022f48e2ef3363"), looks := true }, kinds := [], alts := [], laidByText := true, laidKinds := [.data, .data, .data, .data, .sentinel, .sentinel, .pinned], laidTests := true, laidLooks := .later }
def DimensionBoundsUptoCardSaid : Prop := Claim7.holds Tryz.pinned (.plain (OpenSpec.upto dimensionBoundsSpec)) dimensionBoundsUptoCard

/-- THE SECOND FORM's CARD OF 'dowellaw37.DimensionExprs'. -/
def dimensionExprsUptoCard : Claim7 := { stood := { row := dimensionExprsUptoRow, standIns := [], harness := (true, "d5b1339519835daedc2f2e08577a4a3d7ddc10e58846def049022f48e2ef3363"), looks := true }, kinds := [], alts := [], laidByText := true, laidKinds := [.data, .data, .data, .data, .sentinel, .sentinel, .pinned], laidTests := true, laidLooks := .later }
def DimensionExprsUptoCardSaid : Prop := Claim7.holds Tryz.pinned (.plain (OpenSpec.upto dimensionExprsSpec)) dimensionExprsUptoCard

/-- THE SECOND FORM's CARD OF 'dowellaw37.DimensionKeeps'. -/
def dimensionKeepsUptoCard : Claim7 := { stood := { row := dimensionKeepsUptoRow, standIns := [], harness := (true, "d5b1339519835daedc2f2e08577a4a3d7ddc10e58846def049022f48e2ef3363"), looks := true }, kinds := [], alts := [], laidByText := true, laidKinds := [.data, .data, .data, .data, .sentinel, .sentinel, .pinned], laidTests := true, laidLooks := .later }
def DimensionKeepsUptoCardSaid : Prop := Claim7.holds Tryz.pinned (.plain (OpenSpec.upto dimensionKeepsSpec)) dimensionKeepsUptoCard
end Rows
end Go.Proofs.YtdgimcmappmjdaaGreatDoor
