/-
  DERIVED. GIVEN WITH THE SEED: THE CARDS: each row of YtgofihilkobenaaGreatDoorRows.lean that lists a variable, with what it lists TIED to the program's text (the seventh form; the later family's looks); each row that meets fmt, with fmt's text TOLD by the authors' own Lean function (tested against real Go, not proved from fmt's source: count such statements apart). THE CARD IS WHAT COUNTS. Prove the row's statement (the work); the ties are given (YtgofihilkobenaaGreatDoorTie.lean); close each card by the builder's one call (the guide's Derived/Test/ToyasCard.lean, 'card_holds'). Laid BY PROGRAM, IN A SANDBOX (cutbox-door.mjs). By AI agents, Wed Nov 11 2026. No macro, syntax, notation, axiom, sorry.
-/
import Derived.Test.YtgofihilkobenaaGreatDoorRows
import GoSem.ClaimSeven
namespace Go.Proofs.YtgofihilkobenaaGreatDoor
namespace Rows

/-- THE TIED CARD OF 'dowellaw38.DatumLimits'. -/
def datumLimitsCard : Claim7 := { stood := { row := datumLimitsRow, standIns := [], harness := (true, "bc72bb6f2bc631532d0dfed201911ad740fca99f6c8f5b70cdef4c6c3473c1e0"), looks := true }, kinds := [], alts := [], laidByText := true, laidKinds := [.data, .data, .data, .data, .sentinel, .sentinel, .pinned], laidTests := true, laidLooks := .later }
def DatumLimitsCardSaid : Prop := Claim7.holds Tryz.pinned (.plain (OpenSpec.ofChange datumLimitsSpec)) datumLimitsCard

/-- THE TIED CARD OF 'dowellaw38.DatumHolds'. -/
def datumHoldsCard : Claim7 := { stood := { row := datumHoldsRow, standIns := [], harness := (true, "bc72bb6f2bc631532d0dfed201911ad740fca99f6c8f5b70cdef4c6c3473c1e0"), looks := true }, kinds := [], alts := [], laidByText := true, laidKinds := [.data, .data, .data, .data, .sentinel, .sentinel, .pinned], laidTests := true, laidLooks := .later }
def DatumHoldsCardSaid : Prop := Claim7.holds Tryz.pinned (.plain (OpenSpec.ofChange datumHoldsSpec)) datumHoldsCard

/-- THE TIED CARD OF 'dowellaw38.DatumBonus'. -/
def datumBonusCard : Claim7 := { stood := { row := datumBonusRow, standIns := [], harness := (true, "bc72bb6f2bc631532d0dfed201911ad740fca99f6c8f5b70cdef4c6c3473c1e0"), looks := true }, kinds := [], alts := [], laidByText := true, laidKinds := [.data, .data, .data, .data, .sentinel, .sentinel, .pinned], laidTests := true, laidLooks := .later }
def DatumBonusCardSaid : Prop := Claim7.holds Tryz.pinned (.plain (OpenSpec.ofChange datumBonusSpec)) datumBonusCard

/-- THE TIED CARD OF 'dowellaw38.DatumVariables'. -/
def datumVariablesCard : Claim7 := { stood := { row := datumVariablesRow, standIns := [], harness := (true, "bc72bb6f2bc631532d0dfed201911ad740fca99f6c8f5b70cdef4c6c3473c1e0"), looks := true }, kinds := [], alts := [], laidByText := true, laidKinds := [.data, .data, .data, .data, .sentinel, .sentinel, .pinned], laidTests := true, laidLooks := .later }
def DatumVariablesCardSaid : Prop := Claim7.holds Tryz.pinned (.plain (OpenSpec.ofChange datumVariablesSpec)) datumVariablesCard

/-- THE TIED CARD OF 'dowellaw38.DatumChains'. -/
def datumChainsCard : Claim7 := { stood := { row := datumChainsRow, standIns := [], harness := (true, "bc72bb6f2bc631532d0dfed201911ad740fca99f6c8f5b70cdef4c6c3473c1e0"), looks := true }, kinds := [], alts := [], laidByText := true, laidKinds := [.data, .data, .data, .data, .sentinel, .sentinel, .pinned], laidTests := true, laidLooks := .later }
def DatumChainsCardSaid : Prop := Claim7.holds Tryz.pinned (.plain (OpenSpec.ofChange datumChainsSpec)) datumChainsCard

/-- THE TIED CARD OF 'dowellaw38.DatumPlaces'. -/
def datumPlacesCard : Claim7 := { stood := { row := datumPlacesRow, standIns := [], harness := (true, "bc72bb6f2bc631532d0dfed201911ad740fca99f6c8f5b70cdef4c6c3473c1e0"), looks := true }, kinds := [], alts := [], laidByText := true, laidKinds := [.data, .data, .data, .data, .sentinel, .sentinel, .pinned], laidTests := true, laidLooks := .later }
def DatumPlacesCardSaid : Prop := Claim7.holds Tryz.pinned (.plain (OpenSpec.ofChange datumPlacesSpec)) datumPlacesCard

/-- THE TIED CARD OF 'dowellaw38.DatumConstrains'. -/
def datumConstrainsCard : Claim7 := { stood := { row := datumConstrainsRow, standIns := [], harness := (true, "bc72bb6f2bc631532d0dfed201911ad740fca99f6c8f5b70cdef4c6c3473c1e0"), looks := true }, kinds := [], alts := [], laidByText := true, laidKinds := [.data, .data, .data, .data, .sentinel, .sentinel, .pinned], laidTests := true, laidLooks := .later }
def DatumConstrainsCardSaid : Prop := Claim7.holds Tryz.pinned (.plain (OpenSpec.ofChange datumConstrainsSpec)) datumConstrainsCard

/-- THE TIED CARD OF 'dowellaw38.DatumChecks'. -/
def datumChecksCard : Claim7 := { stood := { row := datumChecksRow, standIns := [], harness := (true, "bc72bb6f2bc631532d0dfed201911ad740fca99f6c8f5b70cdef4c6c3473c1e0"), looks := true }, kinds := [], alts := [], laidByText := true, laidKinds := [.data, .data, .data, .data, .sentinel, .sentinel, .pinned], laidTests := true, laidLooks := .later }
def DatumChecksCardSaid : Prop := Claim7.holds Tryz.pinned (.plain (OpenSpec.ofChange datumChecksSpec)) datumChecksCard

/-- THE TIED CARD OF 'dowellaw38.DatumDistances'. -/
def datumDistancesCard : Claim7 := { stood := { row := datumDistancesRow, standIns := [], harness := (true, "bc72bb6f2bc631532d0dfed201911ad740fca99f6c8f5b70cdef4c6c3473c1e0"), looks := true }, kinds := [], alts := [], laidByText := true, laidKinds := [.data, .data, .data, .data, .sentinel, .sentinel, .pinned], laidTests := true, laidLooks := .later }
def DatumDistancesCardSaid : Prop := Claim7.holds Tryz.pinned (.plain (OpenSpec.ofChange datumDistancesSpec)) datumDistancesCard

/-- THE SECOND FORM's CARD OF 'dowellaw38.DatumLimits'. -/
def datumLimitsUptoCard : Claim7 := { stood := { row := datumLimitsUptoRow, standIns := [], harness := (true, "bc72bb6f2bc631532d0dfed201911ad740fca99f6c8f5b70cdef4c6c3473c1e0"), looks := true }, kinds := [], alts := [], laidByText := true, laidKinds := [.data, .data, .data, .data, .sentinel, .sentinel, .pinned], laidTests := true, laidLooks := .later }
def DatumLimitsUptoCardSaid : Prop := Claim7.holds Tryz.pinned (.plain (OpenSpec.upto datumLimitsSpec)) datumLimitsUptoCard

/-- THE SECOND FORM's CARD OF 'dowellaw38.DatumHolds'. -/
def datumHoldsUptoCard : Claim7 := { stood := { row := datumHoldsUptoRow, standIns := [], harness := (true, "bc72bb6f2bc631532d0dfed201911ad740fca99f6c8f5b70cdef4c6c3473c1e0"), looks := true }, kinds := [], alts := [], laidByText := true, laidKinds := [.data, .data, .data, .data, .sentinel, .sentinel, .pinned], laidTests := true, laidLooks := .later }
def DatumHoldsUptoCardSaid : Prop := Claim7.holds Tryz.pinned (.plain (OpenSpec.upto datumHoldsSpec)) datumHoldsUptoCard

/-- THE SECOND FORM's CARD OF 'dowellaw38.DatumBonus'. -/
def datumBonusUptoCard : Claim7 := { stood := { row := datumBonusUptoRow, standIns := [], harness := (true, "bc72bb6f2bc631532d0dfed201911ad740fca99f6c8f5b70cdef4c6c3473c1e0"), looks := true }, kinds := [], alts := [], laidByText := true, laidKinds := [.data, .data, .data, .data, .sentinel, .sentinel, .pinned], laidTests := true, laidLooks := .later }
def DatumBonusUptoCardSaid : Prop := Claim7.holds Tryz.pinned (.plain (OpenSpec.upto datumBonusSpec)) datumBonusUptoCard

/-- THE SECOND FORM's CARD OF 'dowellaw38.DatumVariables'. -/
def datumVariablesUptoCard : Claim7 := { stood := { row := datumVariablesUptoRow, standIns := [], harness := (true, "bc72bb6f2bc631532d0dfed201911ad740fca99f6c8f5b70cdef4c6c3473c1e0"), looks := true }, kinds := [], alts := [], laidByText := true, laidKinds := [.data, .data, .data, .data, .sentinel, .sentinel, .pinned], laidTests := true, laidLooks := .later }
def DatumVariablesUptoCardSaid : Prop := Claim7.holds Tryz.pinned (.plain (OpenSpec.upto datumVariablesSpec)) datumVariablesUptoCard

/-- THE SECOND FORM's CARD OF 'dowellaw38.DatumChains'. -/
def datumChainsUptoCard : Claim7 := { stood := { row := datumChainsUptoRow, standIns := [], harness := (true, "bc72bb6f2bc631532d0dfed201911ad740fca99f6c8f5b70cdef4c6c3473c1e0"), looks := true }, kinds := [], alts := [], laidByText := true, laidKinds := [.data, .data, .data, .data, .sentinel, .sentinel, .pinned], laidTests := true, laidLooks := .later }
def DatumChainsUptoCardSaid : Prop := Claim7.holds Tryz.pinned (.plain (OpenSpec.upto datumChainsSpec)) datumChainsUptoCard

/-- THE SECOND FORM's CARD OF 'dowellaw38.DatumPlaces'. -/
def datumPlacesUptoCard : Claim7 := { stood := { row := datumPlacesUptoRow, standIns := [], harness := (true, "bc72bb6f2bc631532d0dfed201911ad740fca99f6c8f5b70cdef4c6c3473c1e0"), looks := true }, kinds := [], alts := [], laidByText := true, laidKinds := [.data, .data, .data, .data, .sentinel, .sentinel, .pinned], laidTests := true, laidLooks := .later }
def DatumPlacesUptoCardSaid : Prop := Claim7.holds Tryz.pinned (.plain (OpenSpec.upto datumPlacesSpec)) datumPlacesUptoCard

/-- THE SECOND FORM's CARD OF 'dowellaw38.DatumConstrains'. -/
def datumConstrainsUptoCard : Claim7 := { stood := { row := datumConstrainsUptoRow, standIns := [], harness := (true, "bc72bb6f2bc631532d0dfed201911ad740fca99f6c8f5b70cdef4c6c3473c1e0"), looks := true }, kinds := [], alts := [], laidByText := true, laidKinds := [.data, .data, .data, .data, .sentinel, .sentinel, .pinned], laidTests := true, laidLooks := .later }
def DatumConstrainsUptoCardSaid : Prop := Claim7.holds Tryz.pinned (.plain (OpenSpec.upto datumConstrainsSpec)) datumConstrainsUptoCard

/-- THE SECOND FORM's CARD OF 'dowellaw38.DatumChecks'. -/
def datumChecksUptoCard : Claim7 := { stood := { row := datumChecksUptoRow, standIns := [], harness := (true, "bc72bb6f2bc631532d0dfed201911ad740fca99f6c8f5b70cdef4c6c3473c1e0"), looks := true }, kinds := [], alts := [], laidByText := true, laidKinds := [.data, .data, .data, .data, .sentinel, .sentinel, .pinned], laidTests := true, laidLooks := .later }
def DatumChecksUptoCardSaid : Prop := Claim7.holds Tryz.pinned (.plain (OpenSpec.upto datumChecksSpec)) datumChecksUptoCard

/-- THE SECOND FORM's CARD OF 'dowellaw38.DatumDistances'. -/
def datumDistancesUptoCard : Claim7 := { stood := { row := datumDistancesUptoRow, standIns := [], harness := (true, "bc72bb6f2bc631532d0dfed201911ad740fca99f6c8f5b70cdef4c6c3473c1e0"), looks := true }, kinds := [], alts := [], laidByText := true, laidKinds := [.data, .data, .data, .data, .sentinel, .sentinel, .pinned], laidTests := true, laidLooks := .later }
def DatumDistancesUptoCardSaid : Prop := Claim7.holds Tryz.pinned (.plain (OpenSpec.upto datumDistancesSpec)) datumDistancesUptoCard
end Rows
end Go.Proofs.YtgofihilkobenaaGreatDoor
