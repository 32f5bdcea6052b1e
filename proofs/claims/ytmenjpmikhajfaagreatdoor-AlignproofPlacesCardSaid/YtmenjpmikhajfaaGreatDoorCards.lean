/-
  DERIVED. GIVEN WITH THE SEED: THE CARDS: each row of YtmenjpmikhajfaaGreatDoorRows.lean that lists a variable, with what it lists TIED to the program's text (the seventh form; the later family's looks); each row that meets fmt, with fmt's text TOLD by the authors' own Lean function (tested against real Go, not proved from fmt's source: count such statements apart). THE CARD IS WHAT COUNTS. Prove the row's statement (the work); the ties are given (YtmenjpmikhajfaaGreatDoorTie.lean); close each card by the builder's one call (the guide's Derived/Test/ToyasCard.lean, 'card_holds'). Laid BY PROGRAM, IN A SANDBOX (cutbox-door.mjs). By AI agents, Wed Nov 11 2026. No macro, syntax, notation, axiom, sorry.
-/
import Derived.Test.YtmenjpmikhajfaaGreatDoorRows
import GoSem.ClaimSeven
namespace Go.Proofs.YtmenjpmikhajfaaGreatDoor
namespace Rows

/-- THE TIED CARD OF 'apographlaw21.ProgressiveChanges'. -/
def progressiveChangesCard : Claim7 := { stood := { row := progressiveChangesRow, standIns := [], harness := (true, "a99cdf59d6efa606f87a5bb4c7fcc05d64041f068a1803fa1d9ac2571df2b43a"), looks := true }, kinds := [], alts := [], laidByText := true, laidKinds := [.data, .data, .data, .sentinel, .sentinel], laidTests := true, laidLooks := .later }
def ProgressiveChangesCardSaid : Prop := Claim7.holds Tryz.pinned (.plain (OpenSpec.ofChange progressiveChangesSpec)) progressiveChangesCard

/-- THE TIED CARD OF 'apographlaw21.ProgressiveOrder'. -/
def progressiveOrderCard : Claim7 := { stood := { row := progressiveOrderRow, standIns := [], harness := (true, "a99cdf59d6efa606f87a5bb4c7fcc05d64041f068a1803fa1d9ac2571df2b43a"), looks := true }, kinds := [], alts := [], laidByText := true, laidKinds := [.data, .data, .data, .sentinel, .sentinel], laidTests := true, laidLooks := .later }
def ProgressiveOrderCardSaid : Prop := Claim7.holds Tryz.pinned (.plain (OpenSpec.ofChange progressiveOrderSpec)) progressiveOrderCard

/-- THE TIED CARD OF 'apographlaw19.MultiwayAligns'. -/
def multiwayAlignsCard : Claim7 := { stood := { row := multiwayAlignsRow, standIns := [], harness := (true, "a99cdf59d6efa606f87a5bb4c7fcc05d64041f068a1803fa1d9ac2571df2b43a"), looks := true }, kinds := [], alts := [], laidByText := true, laidKinds := [.data, .data, .data, .sentinel, .sentinel], laidTests := true, laidLooks := .later }
def MultiwayAlignsCardSaid : Prop := Claim7.holds Tryz.pinned (.plain (OpenSpec.ofChange multiwayAlignsSpec)) multiwayAlignsCard

/-- THE TIED CARD OF 'apographlaw20.AlignproofPotentials'. -/
def alignproofPotentialsCard : Claim7 := { stood := { row := alignproofPotentialsRow, standIns := [], harness := (true, "a99cdf59d6efa606f87a5bb4c7fcc05d64041f068a1803fa1d9ac2571df2b43a"), looks := true }, kinds := [], alts := [], laidByText := true, laidKinds := [.data, .data, .data, .sentinel, .sentinel], laidTests := true, laidLooks := .later }
def AlignproofPotentialsCardSaid : Prop := Claim7.holds Tryz.pinned (.plain (OpenSpec.ofChange alignproofPotentialsSpec)) alignproofPotentialsCard

/-- THE TIED CARD OF 'apographlaw20.AlignproofPlaces'. -/
def alignproofPlacesCard : Claim7 := { stood := { row := alignproofPlacesRow, standIns := [], harness := (true, "a99cdf59d6efa606f87a5bb4c7fcc05d64041f068a1803fa1d9ac2571df2b43a"), looks := true }, kinds := [], alts := [], laidByText := true, laidKinds := [.data, .data, .data, .sentinel, .sentinel], laidTests := true, laidLooks := .later }
def AlignproofPlacesCardSaid : Prop := Claim7.holds Tryz.pinned (.plain (OpenSpec.ofChange alignproofPlacesSpec)) alignproofPlacesCard

/-- THE TIED CARD OF 'apographlaw20.AlignproofGreatest'. -/
def alignproofGreatestCard : Claim7 := { stood := { row := alignproofGreatestRow, standIns := [], harness := (true, "a99cdf59d6efa606f87a5bb4c7fcc05d64041f068a1803fa1d9ac2571df2b43a"), looks := true }, kinds := [], alts := [], laidByText := true, laidKinds := [.data, .data, .data, .sentinel, .sentinel], laidTests := true, laidLooks := .later }
def AlignproofGreatestCardSaid : Prop := Claim7.holds Tryz.pinned (.plain (OpenSpec.ofChange alignproofGreatestSpec)) alignproofGreatestCard

/-- THE TIED CARD OF 'apographlaw20.AlignproofPairs'. -/
def alignproofPairsCard : Claim7 := { stood := { row := alignproofPairsRow, standIns := [], harness := (true, "a99cdf59d6efa606f87a5bb4c7fcc05d64041f068a1803fa1d9ac2571df2b43a"), looks := true }, kinds := [], alts := [], laidByText := true, laidKinds := [.data, .data, .data, .sentinel, .sentinel], laidTests := true, laidLooks := .later }
def AlignproofPairsCardSaid : Prop := Claim7.holds Tryz.pinned (.plain (OpenSpec.ofChange alignproofPairsSpec)) alignproofPairsCard

/-- THE TIED CARD OF 'apographlaw20.AlignproofBounds'. -/
def alignproofBoundsCard : Claim7 := { stood := { row := alignproofBoundsRow, standIns := [], harness := (true, "a99cdf59d6efa606f87a5bb4c7fcc05d64041f068a1803fa1d9ac2571df2b43a"), looks := true }, kinds := [], alts := [], laidByText := true, laidKinds := [.data, .data, .data, .sentinel, .sentinel], laidTests := true, laidLooks := .later }
def AlignproofBoundsCardSaid : Prop := Claim7.holds Tryz.pinned (.plain (OpenSpec.ofChange alignproofBoundsSpec)) alignproofBoundsCard

/-- THE TIED CARD OF 'apographlaw20.AlignproofChecks'. -/
def alignproofChecksCard : Claim7 := { stood := { row := alignproofChecksRow, standIns := [], harness := (true, "a99cdf59d6efa606f87a5bb4c7fcc05d64041f068a1803fa1d9ac2571df2b43a"), looks := true }, kinds := [], alts := [], laidByText := true, laidKinds := [.data, .data, .data, .sentinel, .sentinel], laidTests := true, laidLooks := .later }
def AlignproofChecksCardSaid : Prop := Claim7.holds Tryz.pinned (.plain (OpenSpec.ofChange alignproofChecksSpec)) alignproofChecksCard

/-- THE TIED CARD OF 'apographlaw20.AlignproofTight'. -/
def alignproofTightCard : Claim7 := { stood := { row := alignproofTightRow, standIns := [], harness := (true, "a99cdf59d6efa606f87a5bb4c7fcc05d64041f068a1803fa1d9ac2571df2b43a"), looks := true }, kinds := [], alts := [], laidByText := true, laidKinds := [.data, .data, .data, .sentinel, .sentinel], laidTests := true, laidLooks := .later }
def AlignproofTightCardSaid : Prop := Claim7.holds Tryz.pinned (.plain (OpenSpec.ofChange alignproofTightSpec)) alignproofTightCard

/-- THE TIED CARD OF 'apographlaw20.AlignproofProves'. -/
def alignproofProvesCard : Claim7 := { stood := { row := alignproofProvesRow, standIns := [], harness := (true, "a99cdf59d6efa606f87a5bb4c7fcc05d64041f068a1803fa1d9ac2571df2b43a"), looks := true }, kinds := [], alts := [], laidByText := true, laidKinds := [.data, .data, .data, .sentinel, .sentinel], laidTests := true, laidLooks := .later }
def AlignproofProvesCardSaid : Prop := Claim7.holds Tryz.pinned (.plain (OpenSpec.ofChange alignproofProvesSpec)) alignproofProvesCard

/-- THE SECOND FORM's CARD OF 'apographlaw21.ProgressiveChanges'. -/
def progressiveChangesUptoCard : Claim7 := { stood := { row := progressiveChangesUptoRow, standIns := [], harness := (true, "a99cdf59d6efa606f87a5bb4c7fcc05d64041f068a1803fa1d9ac2571df2b43a"), looks := true }, kinds := [], alts := [], laidByText := true, laidKinds := [.data, .data, .data, .sentinel, .sentinel], laidTests := true, laidLooks := .later }
def ProgressiveChangesUptoCardSaid : Prop := Claim7.holds Tryz.pinned (.plain (OpenSpec.upto progressiveChangesSpec)) progressiveChangesUptoCard

/-- THE SECOND FORM's CARD OF 'apographlaw21.ProgressiveOrder'. -/
def progressiveOrderUptoCard : Claim7 := { stood := { row := progressiveOrderUptoRow, standIns := [], harness := (true, "a99cdf59d6efa606f87a5bb4c7fcc05d64041f068a1803fa1d9ac2571df2b43a"), looks := true }, kinds := [], alts := [], laidByText := true, laidKinds := [.data, .data, .data, .sentinel, .sentinel], laidTests := true, laidLooks := .later }
def ProgressiveOrderUptoCardSaid : Prop := Claim7.holds Tryz.pinned (.plain (OpenSpec.upto progressiveOrderSpec)) progressiveOrderUptoCard

/-- THE SECOND FORM's CARD OF 'apographlaw19.MultiwayAligns'. -/
def multiwayAlignsUptoCard : Claim7 := { stood := { row := multiwayAlignsUptoRow, standIns := [], harness := (true, "a99cdf59d6efa606f87a5bb4c7fcc05d64041f068a1803fa1d9ac2571df2b43a"), looks := true }, kinds := [], alts := [], laidByText := true, laidKinds := [.data, .data, .data, .sentinel, .sentinel], laidTests := true, laidLooks := .later }
def MultiwayAlignsUptoCardSaid : Prop := Claim7.holds Tryz.pinned (.plain (OpenSpec.upto multiwayAlignsSpec)) multiwayAlignsUptoCard

/-- THE SECOND FORM's CARD OF 'apographlaw20.AlignproofPotentials'. -/
def alignproofPotentialsUptoCard : Claim7 := { stood := { row := alignproofPotentialsUptoRow, standIns := [], harness := (true, "a99cdf59d6efa606f87a5bb4c7fcc05d64041f068a1803fa1d9ac2571df2b43a"), looks := true }, kinds := [], alts := [], laidByText := true, laidKinds := [.data, .data, .data, .sentinel, .sentinel], laidTests := true, laidLooks := .later }
def AlignproofPotentialsUptoCardSaid : Prop := Claim7.holds Tryz.pinned (.plain (OpenSpec.upto alignproofPotentialsSpec)) alignproofPotentialsUptoCard

/-- THE SECOND FORM's CARD OF 'apographlaw20.AlignproofPlaces'. -/
def alignproofPlacesUptoCard : Claim7 := { stood := { row := alignproofPlacesUptoRow, standIns := [], harness := (true, "a99cdf59d6efa606f87a5bb4c7fcc05d64041f068a1803fa1d9ac2571df2b43a"), looks := true }, kinds := [], alts := [], laidByText := true, laidKinds := [.data, .data, .data, .sentinel, .sentinel], laidTests := true, laidLooks := .later }
def AlignproofPlacesUptoCardSaid : Prop := Claim7.holds Tryz.pinned (.plain (OpenSpec.upto alignproofPlacesSpec)) alignproofPlacesUptoCard

/-- THE SECOND FORM's CARD OF 'apographlaw20.AlignproofGreatest'. -/
def alignproofGreatestUptoCard : Claim7 := { stood := { row := alignproofGreatestUptoRow, standIns := [], harness := (true, "a99cdf59d6efa606f87a5bb4c7fcc05d64041f068a1803fa1d9ac2571df2b43a"), looks := true }, kinds := [], alts := [], laidByText := true, laidKinds := [.data, .data, .data, .sentinel, .sentinel], laidTests := true, laidLooks := .later }
def AlignproofGreatestUptoCardSaid : Prop := Claim7.holds Tryz.pinned (.plain (OpenSpec.upto alignproofGreatestSpec)) alignproofGreatestUptoCard

/-- THE SECOND FORM's CARD OF 'apographlaw20.AlignproofPairs'. -/
def alignproofPairsUptoCard : Claim7 := { stood := { row := alignproofPairsUptoRow, standIns := [], harness := (true, "a99cdf59d6efa606f87a5bb4c7fcc05d64041f068a1803fa1d9ac2571df2b43a"), looks := true }, kinds := [], alts := [], laidByText := true, laidKinds := [.data, .data, .data, .sentinel, .sentinel], laidTests := true, laidLooks := .later }
def AlignproofPairsUptoCardSaid : Prop := Claim7.holds Tryz.pinned (.plain (OpenSpec.upto alignproofPairsSpec)) alignproofPairsUptoCard

/-- THE SECOND FORM's CARD OF 'apographlaw20.AlignproofBounds'. -/
def alignproofBoundsUptoCard : Claim7 := { stood := { row := alignproofBoundsUptoRow, standIns := [], harness := (true, "a99cdf59d6efa606f87a5bb4c7fcc05d64041f068a1803fa1d9ac2571df2b43a"), looks := true }, kinds := [], alts := [], laidByText := true, laidKinds := [.data, .data, .data, .sentinel, .sentinel], laidTests := true, laidLooks := .later }
def AlignproofBoundsUptoCardSaid : Prop := Claim7.holds Tryz.pinned (.plain (OpenSpec.upto alignproofBoundsSpec)) alignproofBoundsUptoCard

/-- THE SECOND FORM's CARD OF 'apographlaw20.AlignproofChecks'. -/
def alignproofChecksUptoCard : Claim7 := { stood := { row := alignproofChecksUptoRow, standIns := [], harness := (true, "a99cdf59d6efa606f87a5bb4c7fcc05d64041f068a1803fa1d9ac2571df2b43a"), looks := true }, kinds := [], alts := [], laidByText := true, laidKinds := [.data, .data, .data, .sentinel, .sentinel], laidTests := true, laidLooks := .later }
def AlignproofChecksUptoCardSaid : Prop := Claim7.holds Tryz.pinned (.plain (OpenSpec.upto alignproofChecksSpec)) alignproofChecksUptoCard

/-- THE SECOND FORM's CARD OF 'apographlaw20.AlignproofTight'. -/
def alignproofTightUptoCard : Claim7 := { stood := { row := alignproofTightUptoRow, standIns := [], harness := (true, "a99cdf59d6efa606f87a5bb4c7fcc05d64041f068a1803fa1d9ac2571df2b43a"), looks := true }, kinds := [], alts := [], laidByText := true, laidKinds := [.data, .data, .data, .sentinel, .sentinel], laidTests := true, laidLooks := .later }
def AlignproofTightUptoCardSaid : Prop := Claim7.holds Tryz.pinned (.plain (OpenSpec.upto alignproofTightSpec)) alignproofTightUptoCard

/-- THE SECOND FORM's CARD OF 'apographlaw20.AlignproofProves'. -/
def alignproofProvesUptoCard : Claim7 := { stood := { row := alignproofProvesUptoRow, standIns := [], harness := (true, "a99cdf59d6efa606f87a5bb4c7fcc05d64041f068a1803fa1d9ac2571df2b43a"), looks := true }, kinds := [], alts := [], laidByText := true, laidKinds := [.data, .data, .data, .sentinel, .sentinel], laidTests := true, laidLooks := .later }
def AlignproofProvesUptoCardSaid : Prop := Claim7.holds Tryz.pinned (.plain (OpenSpec.upto alignproofProvesSpec)) alignproofProvesUptoCard
end Rows
end Go.Proofs.YtmenjpmikhajfaaGreatDoor
