/-
  DERIVED. GIVEN WITH THE SEED: THE CARDS: each row of YtofikdpbagnjbaaGreatDoorRows.lean that lists a variable, with what it lists TIED to the program's text (the seventh form; the later family's looks); each row that meets fmt, with fmt's text TOLD by the authors' own Lean function (tested against real Go, not proved from fmt's source: count such statements apart). THE CARD IS WHAT COUNTS. Prove the row's statement (the work); the ties are given (YtofikdpbagnjbaaGreatDoorTie.lean); close each card by the builder's one call (the guide's Derived/Test/ToyasCard.lean, 'card_holds'). Laid BY PROGRAM, IN A SANDBOX (cutbox-door.mjs). By AI agents, Wed Nov 11 2026. No macro, syntax, notation, axiom, sorry.
-/
import Derived.Test.YtofikdpbagnjbaaGreatDoorRows
import GoSem.ClaimSeven
namespace Go.Proofs.YtofikdpbagnjbaaGreatDoor
namespace Rows

/-- THE TIED CARD OF 'apographlaw21.ProgressiveAligns'. -/
def progressiveAlignsCard : Claim7 := { stood := { row := progressiveAlignsRow, standIns := [], harness := (true, "8da3727bd41b5459b46e191c9a7204ac1b54c7258f68ddd1a33546be5efdd15c"), looks := true }, kinds := [], alts := [], laidByText := true, laidKinds := [.data, .data, .data, .sentinel, .sentinel], laidTests := true, laidLooks := .later }
def ProgressiveAlignsCardSaid : Prop := Claim7.holds Tryz.pinned (.plain (OpenSpec.ofChange progressiveAlignsSpec)) progressiveAlignsCard

/-- THE TIED CARD OF 'apographlaw21.ProgressiveValid'. -/
def progressiveValidCard : Claim7 := { stood := { row := progressiveValidRow, standIns := [], harness := (true, "8da3727bd41b5459b46e191c9a7204ac1b54c7258f68ddd1a33546be5efdd15c"), looks := true }, kinds := [], alts := [], laidByText := true, laidKinds := [.data, .data, .data, .sentinel, .sentinel], laidTests := true, laidLooks := .later }
def ProgressiveValidCardSaid : Prop := Claim7.holds Tryz.pinned (.plain (OpenSpec.ofChange progressiveValidSpec)) progressiveValidCard

/-- THE TIED CARD OF 'apographlaw21.ProgressiveTwo'. -/
def progressiveTwoCard : Claim7 := { stood := { row := progressiveTwoRow, standIns := [], harness := (true, "8da3727bd41b5459b46e191c9a7204ac1b54c7258f68ddd1a33546be5efdd15c"), looks := true }, kinds := [], alts := [], laidByText := true, laidKinds := [.data, .data, .data, .sentinel, .sentinel], laidTests := true, laidLooks := .later }
def ProgressiveTwoCardSaid : Prop := Claim7.holds Tryz.pinned (.plain (OpenSpec.ofChange progressiveTwoSpec)) progressiveTwoCard

/-- THE TIED CARD OF 'apographlaw21.ProgressiveExcess'. -/
def progressiveExcessCard : Claim7 := { stood := { row := progressiveExcessRow, standIns := [], harness := (true, "8da3727bd41b5459b46e191c9a7204ac1b54c7258f68ddd1a33546be5efdd15c"), looks := true }, kinds := [], alts := [], laidByText := true, laidKinds := [.data, .data, .data, .sentinel, .sentinel], laidTests := true, laidLooks := .later }
def ProgressiveExcessCardSaid : Prop := Claim7.holds Tryz.pinned (.plain (OpenSpec.ofChange progressiveExcessSpec)) progressiveExcessCard

/-- THE TIED CARD OF 'apographlaw21.ProgressiveAdds'. -/
def progressiveAddsCard : Claim7 := { stood := { row := progressiveAddsRow, standIns := [], harness := (true, "8da3727bd41b5459b46e191c9a7204ac1b54c7258f68ddd1a33546be5efdd15c"), looks := true }, kinds := [], alts := [], laidByText := true, laidKinds := [.data, .data, .data, .sentinel, .sentinel], laidTests := true, laidLooks := .later }
def ProgressiveAddsCardSaid : Prop := Claim7.holds Tryz.pinned (.plain (OpenSpec.ofChange progressiveAddsSpec)) progressiveAddsCard

/-- THE TIED CARD OF 'apographlaw21.ProgressiveRefines'. -/
def progressiveRefinesCard : Claim7 := { stood := { row := progressiveRefinesRow, standIns := [], harness := (true, "8da3727bd41b5459b46e191c9a7204ac1b54c7258f68ddd1a33546be5efdd15c"), looks := true }, kinds := [], alts := [], laidByText := true, laidKinds := [.data, .data, .data, .sentinel, .sentinel], laidTests := true, laidLooks := .later }
def ProgressiveRefinesCardSaid : Prop := Claim7.holds Tryz.pinned (.plain (OpenSpec.ofChange progressiveRefinesSpec)) progressiveRefinesCard

/-- THE TIED CARD OF 'apographlaw21.ProgressiveChanges'. -/
def progressiveChangesCard : Claim7 := { stood := { row := progressiveChangesRow, standIns := [], harness := (true, "8da3727bd41b5459b46e191c9a7204ac1b54c7258f68ddd1a33546be5efdd15c"), looks := true }, kinds := [], alts := [], laidByText := true, laidKinds := [.data, .data, .data, .sentinel, .sentinel], laidTests := true, laidLooks := .later }
def ProgressiveChangesCardSaid : Prop := Claim7.holds Tryz.pinned (.plain (OpenSpec.ofChange progressiveChangesSpec)) progressiveChangesCard

/-- THE TIED CARD OF 'apographlaw21.ProgressiveOrder'. -/
def progressiveOrderCard : Claim7 := { stood := { row := progressiveOrderRow, standIns := [], harness := (true, "8da3727bd41b5459b46e191c9a7204ac1b54c7258f68ddd1a33546be5efdd15c"), looks := true }, kinds := [], alts := [], laidByText := true, laidKinds := [.data, .data, .data, .sentinel, .sentinel], laidTests := true, laidLooks := .later }
def ProgressiveOrderCardSaid : Prop := Claim7.holds Tryz.pinned (.plain (OpenSpec.ofChange progressiveOrderSpec)) progressiveOrderCard

/-- THE TIED CARD OF 'apographlaw19.MultiwayAligns'. -/
def multiwayAlignsCard : Claim7 := { stood := { row := multiwayAlignsRow, standIns := [], harness := (true, "8da3727bd41b5459b46e191c9a7204ac1b54c7258f68ddd1a33546be5efdd15c"), looks := true }, kinds := [], alts := [], laidByText := true, laidKinds := [.data, .data, .data, .sentinel, .sentinel], laidTests := true, laidLooks := .later }
def MultiwayAlignsCardSaid : Prop := Claim7.holds Tryz.pinned (.plain (OpenSpec.ofChange multiwayAlignsSpec)) multiwayAlignsCard

/-- THE TIED CARD OF 'apographlaw19.MultiwayMoves'. -/
def multiwayMovesCard : Claim7 := { stood := { row := multiwayMovesRow, standIns := [], harness := (true, "8da3727bd41b5459b46e191c9a7204ac1b54c7258f68ddd1a33546be5efdd15c"), looks := true }, kinds := [], alts := [], laidByText := true, laidKinds := [.data, .data, .data, .sentinel, .sentinel], laidTests := true, laidLooks := .later }
def MultiwayMovesCardSaid : Prop := Claim7.holds Tryz.pinned (.plain (OpenSpec.ofChange multiwayMovesSpec)) multiwayMovesCard

/-- THE TIED CARD OF 'apographlaw19.MultiwaySymmetry'. -/
def multiwaySymmetryCard : Claim7 := { stood := { row := multiwaySymmetryRow, standIns := [], harness := (true, "8da3727bd41b5459b46e191c9a7204ac1b54c7258f68ddd1a33546be5efdd15c"), looks := true }, kinds := [], alts := [], laidByText := true, laidKinds := [.data, .data, .data, .sentinel, .sentinel], laidTests := true, laidLooks := .later }
def MultiwaySymmetryCardSaid : Prop := Claim7.holds Tryz.pinned (.plain (OpenSpec.ofChange multiwaySymmetrySpec)) multiwaySymmetryCard

/-- THE TIED CARD OF 'apographlaw19.MultiwayValid'. -/
def multiwayValidCard : Claim7 := { stood := { row := multiwayValidRow, standIns := [], harness := (true, "8da3727bd41b5459b46e191c9a7204ac1b54c7258f68ddd1a33546be5efdd15c"), looks := true }, kinds := [], alts := [], laidByText := true, laidKinds := [.data, .data, .data, .sentinel, .sentinel], laidTests := true, laidLooks := .later }
def MultiwayValidCardSaid : Prop := Claim7.holds Tryz.pinned (.plain (OpenSpec.ofChange multiwayValidSpec)) multiwayValidCard

/-- THE TIED CARD OF 'apographlaw19.MultiwayBest'. -/
def multiwayBestCard : Claim7 := { stood := { row := multiwayBestRow, standIns := [], harness := (true, "8da3727bd41b5459b46e191c9a7204ac1b54c7258f68ddd1a33546be5efdd15c"), looks := true }, kinds := [], alts := [], laidByText := true, laidKinds := [.data, .data, .data, .sentinel, .sentinel], laidTests := true, laidLooks := .later }
def MultiwayBestCardSaid : Prop := Claim7.holds Tryz.pinned (.plain (OpenSpec.ofChange multiwayBestSpec)) multiwayBestCard

/-- THE TIED CARD OF 'apographlaw19.MultiwayProjects'. -/
def multiwayProjectsCard : Claim7 := { stood := { row := multiwayProjectsRow, standIns := [], harness := (true, "8da3727bd41b5459b46e191c9a7204ac1b54c7258f68ddd1a33546be5efdd15c"), looks := true }, kinds := [], alts := [], laidByText := true, laidKinds := [.data, .data, .data, .sentinel, .sentinel], laidTests := true, laidLooks := .later }
def MultiwayProjectsCardSaid : Prop := Claim7.holds Tryz.pinned (.plain (OpenSpec.ofChange multiwayProjectsSpec)) multiwayProjectsCard

/-- THE TIED CARD OF 'apographlaw19.MultiwayChecks'. -/
def multiwayChecksCard : Claim7 := { stood := { row := multiwayChecksRow, standIns := [], harness := (true, "8da3727bd41b5459b46e191c9a7204ac1b54c7258f68ddd1a33546be5efdd15c"), looks := true }, kinds := [], alts := [], laidByText := true, laidKinds := [.data, .data, .data, .sentinel, .sentinel], laidTests := true, laidLooks := .later }
def MultiwayChecksCardSaid : Prop := Claim7.holds Tryz.pinned (.plain (OpenSpec.ofChange multiwayChecksSpec)) multiwayChecksCard

/-- THE TIED CARD OF 'apographlaw19.MultiwayTwo'. -/
def multiwayTwoCard : Claim7 := { stood := { row := multiwayTwoRow, standIns := [], harness := (true, "8da3727bd41b5459b46e191c9a7204ac1b54c7258f68ddd1a33546be5efdd15c"), looks := true }, kinds := [], alts := [], laidByText := true, laidKinds := [.data, .data, .data, .sentinel, .sentinel], laidTests := true, laidLooks := .later }
def MultiwayTwoCardSaid : Prop := Claim7.holds Tryz.pinned (.plain (OpenSpec.ofChange multiwayTwoSpec)) multiwayTwoCard

/-- THE TIED CARD OF 'apographlaw19.MultiwayCosts'. -/
def multiwayCostsCard : Claim7 := { stood := { row := multiwayCostsRow, standIns := [], harness := (true, "8da3727bd41b5459b46e191c9a7204ac1b54c7258f68ddd1a33546be5efdd15c"), looks := true }, kinds := [], alts := [], laidByText := true, laidKinds := [.data, .data, .data, .sentinel, .sentinel], laidTests := true, laidLooks := .later }
def MultiwayCostsCardSaid : Prop := Claim7.holds Tryz.pinned (.plain (OpenSpec.ofChange multiwayCostsSpec)) multiwayCostsCard

/-- THE TIED CARD OF 'apographlaw19.MultiwayBound'. -/
def multiwayBoundCard : Claim7 := { stood := { row := multiwayBoundRow, standIns := [], harness := (true, "8da3727bd41b5459b46e191c9a7204ac1b54c7258f68ddd1a33546be5efdd15c"), looks := true }, kinds := [], alts := [], laidByText := true, laidKinds := [.data, .data, .data, .sentinel, .sentinel], laidTests := true, laidLooks := .later }
def MultiwayBoundCardSaid : Prop := Claim7.holds Tryz.pinned (.plain (OpenSpec.ofChange multiwayBoundSpec)) multiwayBoundCard

/-- THE SECOND FORM's CARD OF 'apographlaw21.ProgressiveAligns'. -/
def progressiveAlignsUptoCard : Claim7 := { stood := { row := progressiveAlignsUptoRow, standIns := [], harness := (true, "8da3727bd41b5459b46e191c9a7204ac1b54c7258f68ddd1a33546be5efdd15c"), looks := true }, kinds := [], alts := [], laidByText := true, laidKinds := [.data, .data, .data, .sentinel, .sentinel], laidTests := true, laidLooks := .later }
def ProgressiveAlignsUptoCardSaid : Prop := Claim7.holds Tryz.pinned (.plain (OpenSpec.upto progressiveAlignsSpec)) progressiveAlignsUptoCard

/-- THE SECOND FORM's CARD OF 'apographlaw21.ProgressiveValid'. -/
def progressiveValidUptoCard : Claim7 := { stood := { row := progressiveValidUptoRow, standIns := [], harness := (true, "8da3727bd41b5459b46e191c9a7204ac1b54c7258f68ddd1a33546be5efdd15c"), looks := true }, kinds := [], alts := [], laidByText := true, laidKinds := [.data, .data, .data, .sentinel, .sentinel], laidTests := true, laidLooks := .later }
def ProgressiveValidUptoCardSaid : Prop := Claim7.holds Tryz.pinned (.plain (OpenSpec.upto progressiveValidSpec)) progressiveValidUptoCard

/-- THE SECOND FORM's CARD OF 'apographlaw21.ProgressiveTwo'. -/
def progressiveTwoUptoCard : Claim7 := { stood := { row := progressiveTwoUptoRow, standIns := [], harness := (true, "8da3727bd41b5459b46e191c9a7204ac1b54c7258f68ddd1a33546be5efdd15c"), looks := true }, kinds := [], alts := [], laidByText := true, laidKinds := [.data, .data, .data, .sentinel, .sentinel], laidTests := true, laidLooks := .later }
def ProgressiveTwoUptoCardSaid : Prop := Claim7.holds Tryz.pinned (.plain (OpenSpec.upto progressiveTwoSpec)) progressiveTwoUptoCard

/-- THE SECOND FORM's CARD OF 'apographlaw21.ProgressiveExcess'. -/
def progressiveExcessUptoCard : Claim7 := { stood := { row := progressiveExcessUptoRow, standIns := [], harness := (true, "8da3727bd41b5459b46e191c9a7204ac1b54c7258f68ddd1a33546be5efdd15c"), looks := true }, kinds := [], alts := [], laidByText := true, laidKinds := [.data, .data, .data, .sentinel, .sentinel], laidTests := true, laidLooks := .later }
def ProgressiveExcessUptoCardSaid : Prop := Claim7.holds Tryz.pinned (.plain (OpenSpec.upto progressiveExcessSpec)) progressiveExcessUptoCard

/-- THE SECOND FORM's CARD OF 'apographlaw21.ProgressiveAdds'. -/
def progressiveAddsUptoCard : Claim7 := { stood := { row := progressiveAddsUptoRow, standIns := [], harness := (true, "8da3727bd41b5459b46e191c9a7204ac1b54c7258f68ddd1a33546be5efdd15c"), looks := true }, kinds := [], alts := [], laidByText := true, laidKinds := [.data, .data, .data, .sentinel, .sentinel], laidTests := true, laidLooks := .later }
def ProgressiveAddsUptoCardSaid : Prop := Claim7.holds Tryz.pinned (.plain (OpenSpec.upto progressiveAddsSpec)) progressiveAddsUptoCard

/-- THE SECOND FORM's CARD OF 'apographlaw21.ProgressiveRefines'. -/
def progressiveRefinesUptoCard : Claim7 := { stood := { row := progressiveRefinesUptoRow, standIns := [], harness := (true, "8da3727bd41b5459b46e191c9a7204ac1b54c7258f68ddd1a33546be5efdd15c"), looks := true }, kinds := [], alts := [], laidByText := true, laidKinds := [.data, .data, .data, .sentinel, .sentinel], laidTests := true, laidLooks := .later }
def ProgressiveRefinesUptoCardSaid : Prop := Claim7.holds Tryz.pinned (.plain (OpenSpec.upto progressiveRefinesSpec)) progressiveRefinesUptoCard

/-- THE SECOND FORM's CARD OF 'apographlaw21.ProgressiveChanges'. -/
def progressiveChangesUptoCard : Claim7 := { stood := { row := progressiveChangesUptoRow, standIns := [], harness := (true, "8da3727bd41b5459b46e191c9a7204ac1b54c7258f68ddd1a33546be5efdd15c"), looks := true }, kinds := [], alts := [], laidByText := true, laidKinds := [.data, .data, .data, .sentinel, .sentinel], laidTests := true, laidLooks := .later }
def ProgressiveChangesUptoCardSaid : Prop := Claim7.holds Tryz.pinned (.plain (OpenSpec.upto progressiveChangesSpec)) progressiveChangesUptoCard

/-- THE SECOND FORM's CARD OF 'apographlaw21.ProgressiveOrder'. -/
def progressiveOrderUptoCard : Claim7 := { stood := { row := progressiveOrderUptoRow, standIns := [], harness := (true, "8da3727bd41b5459b46e191c9a7204ac1b54c7258f68ddd1a33546be5efdd15c"), looks := true }, kinds := [], alts := [], laidByText := true, laidKinds := [.data, .data, .data, .sentinel, .sentinel], laidTests := true, laidLooks := .later }
def ProgressiveOrderUptoCardSaid : Prop := Claim7.holds Tryz.pinned (.plain (OpenSpec.upto progressiveOrderSpec)) progressiveOrderUptoCard

/-- THE SECOND FORM's CARD OF 'apographlaw19.MultiwayAligns'. -/
def multiwayAlignsUptoCard : Claim7 := { stood := { row := multiwayAlignsUptoRow, standIns := [], harness := (true, "8da3727bd41b5459b46e191c9a7204ac1b54c7258f68ddd1a33546be5efdd15c"), looks := true }, kinds := [], alts := [], laidByText := true, laidKinds := [.data, .data, .data, .sentinel, .sentinel], laidTests := true, laidLooks := .later }
def MultiwayAlignsUptoCardSaid : Prop := Claim7.holds Tryz.pinned (.plain (OpenSpec.upto multiwayAlignsSpec)) multiwayAlignsUptoCard

/-- THE SECOND FORM's CARD OF 'apographlaw19.MultiwayMoves'. -/
def multiwayMovesUptoCard : Claim7 := { stood := { row := multiwayMovesUptoRow, standIns := [], harness := (true, "8da3727bd41b5459b46e191c9a7204ac1b54c7258f68ddd1a33546be5efdd15c"), looks := true }, kinds := [], alts := [], laidByText := true, laidKinds := [.data, .data, .data, .sentinel, .sentinel], laidTests := true, laidLooks := .later }
def MultiwayMovesUptoCardSaid : Prop := Claim7.holds Tryz.pinned (.plain (OpenSpec.upto multiwayMovesSpec)) multiwayMovesUptoCard

/-- THE SECOND FORM's CARD OF 'apographlaw19.MultiwaySymmetry'. -/
def multiwaySymmetryUptoCard : Claim7 := { stood := { row := multiwaySymmetryUptoRow, standIns := [], harness := (true, "8da3727bd41b5459b46e191c9a7204ac1b54c7258f68ddd1a33546be5efdd15c"), looks := true }, kinds := [], alts := [], laidByText := true, laidKinds := [.data, .data, .data, .sentinel, .sentinel], laidTests := true, laidLooks := .later }
def MultiwaySymmetryUptoCardSaid : Prop := Claim7.holds Tryz.pinned (.plain (OpenSpec.upto multiwaySymmetrySpec)) multiwaySymmetryUptoCard

/-- THE SECOND FORM's CARD OF 'apographlaw19.MultiwayValid'. -/
def multiwayValidUptoCard : Claim7 := { stood := { row := multiwayValidUptoRow, standIns := [], harness := (true, "8da3727bd41b5459b46e191c9a7204ac1b54c7258f68ddd1a33546be5efdd15c"), looks := true }, kinds := [], alts := [], laidByText := true, laidKinds := [.data, .data, .data, .sentinel, .sentinel], laidTests := true, laidLooks := .later }
def MultiwayValidUptoCardSaid : Prop := Claim7.holds Tryz.pinned (.plain (OpenSpec.upto multiwayValidSpec)) multiwayValidUptoCard

/-- THE SECOND FORM's CARD OF 'apographlaw19.MultiwayBest'. -/
def multiwayBestUptoCard : Claim7 := { stood := { row := multiwayBestUptoRow, standIns := [], harness := (true, "8da3727bd41b5459b46e191c9a7204ac1b54c7258f68ddd1a33546be5efdd15c"), looks := true }, kinds := [], alts := [], laidByText := true, laidKinds := [.data, .data, .data, .sentinel, .sentinel], laidTests := true, laidLooks := .later }
def MultiwayBestUptoCardSaid : Prop := Claim7.holds Tryz.pinned (.plain (OpenSpec.upto multiwayBestSpec)) multiwayBestUptoCard

/-- THE SECOND FORM's CARD OF 'apographlaw19.MultiwayProjects'. -/
def multiwayProjectsUptoCard : Claim7 := { stood := { row := multiwayProjectsUptoRow, standIns := [], harness := (true, "8da3727bd41b5459b46e191c9a7204ac1b54c7258f68ddd1a33546be5efdd15c"), looks := true }, kinds := [], alts := [], laidByText := true, laidKinds := [.data, .data, .data, .sentinel, .sentinel], laidTests := true, laidLooks := .later }
def MultiwayProjectsUptoCardSaid : Prop := Claim7.holds Tryz.pinned (.plain (OpenSpec.upto multiwayProjectsSpec)) multiwayProjectsUptoCard

/-- THE SECOND FORM's CARD OF 'apographlaw19.MultiwayChecks'. -/
def multiwayChecksUptoCard : Claim7 := { stood := { row := multiwayChecksUptoRow, standIns := [], harness := (true, "8da3727bd41b5459b46e191c9a7204ac1b54c7258f68ddd1a33546be5efdd15c"), looks := true }, kinds := [], alts := [], laidByText := true, laidKinds := [.data, .data, .data, .sentinel, .sentinel], laidTests := true, laidLooks := .later }
def MultiwayChecksUptoCardSaid : Prop := Claim7.holds Tryz.pinned (.plain (OpenSpec.upto multiwayChecksSpec)) multiwayChecksUptoCard

/-- THE SECOND FORM's CARD OF 'apographlaw19.MultiwayTwo'. -/
def multiwayTwoUptoCard : Claim7 := { stood := { row := multiwayTwoUptoRow, standIns := [], harness := (true, "8da3727bd41b5459b46e191c9a7204ac1b54c7258f68ddd1a33546be5efdd15c"), looks := true }, kinds := [], alts := [], laidByText := true, laidKinds := [.data, .data, .data, .sentinel, .sentinel], laidTests := true, laidLooks := .later }
def MultiwayTwoUptoCardSaid : Prop := Claim7.holds Tryz.pinned (.plain (OpenSpec.upto multiwayTwoSpec)) multiwayTwoUptoCard

/-- THE SECOND FORM's CARD OF 'apographlaw19.MultiwayCosts'. -/
def multiwayCostsUptoCard : Claim7 := { stood := { row := multiwayCostsUptoRow, standIns := [], harness := (true, "8da3727bd41b5459b46e191c9a7204ac1b54c7258f68ddd1a33546be5efdd15c"), looks := true }, kinds := [], alts := [], laidByText := true, laidKinds := [.data, .data, .data, .sentinel, .sentinel], laidTests := true, laidLooks := .later }
def MultiwayCostsUptoCardSaid : Prop := Claim7.holds Tryz.pinned (.plain (OpenSpec.upto multiwayCostsSpec)) multiwayCostsUptoCard

/-- THE SECOND FORM's CARD OF 'apographlaw19.MultiwayBound'. -/
def multiwayBoundUptoCard : Claim7 := { stood := { row := multiwayBoundUptoRow, standIns := [], harness := (true, "8da3727bd41b5459b46e191c9a7204ac1b54c7258f68ddd1a33546be5efdd15c"), looks := true }, kinds := [], alts := [], laidByText := true, laidKinds := [.data, .data, .data, .sentinel, .sentinel], laidTests := true, laidLooks := .later }
def MultiwayBoundUptoCardSaid : Prop := Claim7.holds Tryz.pinned (.plain (OpenSpec.upto multiwayBoundSpec)) multiwayBoundUptoCard
end Rows
end Go.Proofs.YtofikdpbagnjbaaGreatDoor
