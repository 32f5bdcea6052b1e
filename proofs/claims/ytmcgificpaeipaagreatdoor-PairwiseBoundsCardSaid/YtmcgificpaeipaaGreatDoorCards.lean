/-
  DERIVED. GIVEN WITH THE SEED: THE CARDS: each row of YtmcgificpaeipaaGreatDoorRows.lean that lists a variable, with what it lists TIED to the program's text (the seventh form; the later family's looks); each row that meets fmt, with fmt's text TOLD by the authors' own Lean function (tested against real Go, not proved from fmt's source: count such statements apart). THE CARD IS WHAT COUNTS. Prove the row's statement (the work); the ties are given (YtmcgificpaeipaaGreatDoorTie.lean); close each card by the builder's one call (the guide's Derived/Test/ToyasCard.lean, 'card_holds'). Laid BY PROGRAM, IN A SANDBOX (cutbox-door.mjs). By AI agents, Wed Nov 11 2026. No macro, syntax, notation, axiom, sorry.
-/
import Derived.Test.YtmcgificpaeipaaGreatDoorRows
import GoSem.ClaimSeven
namespace Go.Proofs.YtmcgificpaeipaaGreatDoor
namespace Rows

/-- THE TIED CARD OF 'apographlaw18.PairwiseJoins'. -/
def pairwiseJoinsCard : Claim7 := { stood := { row := pairwiseJoinsRow, standIns := [], harness := (true, "eeeb7ba5f59194c4fb892d9bd69c6f4887df1c3fcf5c3cbcdfbc4827380e6da7"), looks := true }, kinds := [], alts := [], laidByText := true, laidKinds := [.data, .data, .data, .sentinel, .sentinel], laidTests := true, laidLooks := .later }
def PairwiseJoinsCardSaid : Prop := Claim7.holds Tryz.pinned (.plain (OpenSpec.ofChange pairwiseJoinsSpec)) pairwiseJoinsCard

/-- THE TIED CARD OF 'apographlaw18.PairwiseAligns'. -/
def pairwiseAlignsCard : Claim7 := { stood := { row := pairwiseAlignsRow, standIns := [], harness := (true, "eeeb7ba5f59194c4fb892d9bd69c6f4887df1c3fcf5c3cbcdfbc4827380e6da7"), looks := true }, kinds := [], alts := [], laidByText := true, laidKinds := [.data, .data, .data, .sentinel, .sentinel], laidTests := true, laidLooks := .later }
def PairwiseAlignsCardSaid : Prop := Claim7.holds Tryz.pinned (.plain (OpenSpec.ofChange pairwiseAlignsSpec)) pairwiseAlignsCard

/-- THE TIED CARD OF 'apographlaw18.PairwiseOptimal'. -/
def pairwiseOptimalCard : Claim7 := { stood := { row := pairwiseOptimalRow, standIns := [], harness := (true, "eeeb7ba5f59194c4fb892d9bd69c6f4887df1c3fcf5c3cbcdfbc4827380e6da7"), looks := true }, kinds := [], alts := [], laidByText := true, laidKinds := [.data, .data, .data, .sentinel, .sentinel], laidTests := true, laidLooks := .later }
def PairwiseOptimalCardSaid : Prop := Claim7.holds Tryz.pinned (.plain (OpenSpec.ofChange pairwiseOptimalSpec)) pairwiseOptimalCard

/-- THE TIED CARD OF 'apographlaw18.PairwiseTurned'. -/
def pairwiseTurnedCard : Claim7 := { stood := { row := pairwiseTurnedRow, standIns := [], harness := (true, "eeeb7ba5f59194c4fb892d9bd69c6f4887df1c3fcf5c3cbcdfbc4827380e6da7"), looks := true }, kinds := [], alts := [], laidByText := true, laidKinds := [.data, .data, .data, .sentinel, .sentinel], laidTests := true, laidLooks := .later }
def PairwiseTurnedCardSaid : Prop := Claim7.holds Tryz.pinned (.plain (OpenSpec.ofChange pairwiseTurnedSpec)) pairwiseTurnedCard

/-- THE TIED CARD OF 'apographlaw18.PairwiseCounts'. -/
def pairwiseCountsCard : Claim7 := { stood := { row := pairwiseCountsRow, standIns := [], harness := (true, "eeeb7ba5f59194c4fb892d9bd69c6f4887df1c3fcf5c3cbcdfbc4827380e6da7"), looks := true }, kinds := [], alts := [], laidByText := true, laidKinds := [.data, .data, .data, .sentinel, .sentinel], laidTests := true, laidLooks := .later }
def PairwiseCountsCardSaid : Prop := Claim7.holds Tryz.pinned (.plain (OpenSpec.ofChange pairwiseCountsSpec)) pairwiseCountsCard

/-- THE TIED CARD OF 'apographlaw18.PairwiseChecks'. -/
def pairwiseChecksCard : Claim7 := { stood := { row := pairwiseChecksRow, standIns := [], harness := (true, "eeeb7ba5f59194c4fb892d9bd69c6f4887df1c3fcf5c3cbcdfbc4827380e6da7"), looks := true }, kinds := [], alts := [], laidByText := true, laidKinds := [.data, .data, .data, .sentinel, .sentinel], laidTests := true, laidLooks := .later }
def PairwiseChecksCardSaid : Prop := Claim7.holds Tryz.pinned (.plain (OpenSpec.ofChange pairwiseChecksSpec)) pairwiseChecksCard

/-- THE TIED CARD OF 'apographlaw18.PairwiseProofs'. -/
def pairwiseProofsCard : Claim7 := { stood := { row := pairwiseProofsRow, standIns := [], harness := (true, "eeeb7ba5f59194c4fb892d9bd69c6f4887df1c3fcf5c3cbcdfbc4827380e6da7"), looks := true }, kinds := [], alts := [], laidByText := true, laidKinds := [.data, .data, .data, .sentinel, .sentinel], laidTests := true, laidLooks := .later }
def PairwiseProofsCardSaid : Prop := Claim7.holds Tryz.pinned (.plain (OpenSpec.ofChange pairwiseProofsSpec)) pairwiseProofsCard

/-- THE TIED CARD OF 'apographlaw18.PairwiseBounds'. -/
def pairwiseBoundsCard : Claim7 := { stood := { row := pairwiseBoundsRow, standIns := [], harness := (true, "eeeb7ba5f59194c4fb892d9bd69c6f4887df1c3fcf5c3cbcdfbc4827380e6da7"), looks := true }, kinds := [], alts := [], laidByText := true, laidKinds := [.data, .data, .data, .sentinel, .sentinel], laidTests := true, laidLooks := .later }
def PairwiseBoundsCardSaid : Prop := Claim7.holds Tryz.pinned (.plain (OpenSpec.ofChange pairwiseBoundsSpec)) pairwiseBoundsCard

/-- THE SECOND FORM's CARD OF 'apographlaw18.PairwiseJoins'. -/
def pairwiseJoinsUptoCard : Claim7 := { stood := { row := pairwiseJoinsUptoRow, standIns := [], harness := (true, "eeeb7ba5f59194c4fb892d9bd69c6f4887df1c3fcf5c3cbcdfbc4827380e6da7"), looks := true }, kinds := [], alts := [], laidByText := true, laidKinds := [.data, .data, .data, .sentinel, .sentinel], laidTests := true, laidLooks := .later }
def PairwiseJoinsUptoCardSaid : Prop := Claim7.holds Tryz.pinned (.plain (OpenSpec.upto pairwiseJoinsSpec)) pairwiseJoinsUptoCard

/-- THE SECOND FORM's CARD OF 'apographlaw18.PairwiseAligns'. -/
def pairwiseAlignsUptoCard : Claim7 := { stood := { row := pairwiseAlignsUptoRow, standIns := [], harness := (true, "eeeb7ba5f59194c4fb892d9bd69c6f4887df1c3fcf5c3cbcdfbc4827380e6da7"), looks := true }, kinds := [], alts := [], laidByText := true, laidKinds := [.data, .data, .data, .sentinel, .sentinel], laidTests := true, laidLooks := .later }
def PairwiseAlignsUptoCardSaid : Prop := Claim7.holds Tryz.pinned (.plain (OpenSpec.upto pairwiseAlignsSpec)) pairwiseAlignsUptoCard

/-- THE SECOND FORM's CARD OF 'apographlaw18.PairwiseOptimal'. -/
def pairwiseOptimalUptoCard : Claim7 := { stood := { row := pairwiseOptimalUptoRow, standIns := [], harness := (true, "eeeb7ba5f59194c4fb892d9bd69c6f4887df1c3fcf5c3cbcdfbc4827380e6da7"), looks := true }, kinds := [], alts := [], laidByText := true, laidKinds := [.data, .data, .data, .sentinel, .sentinel], laidTests := true, laidLooks := .later }
def PairwiseOptimalUptoCardSaid : Prop := Claim7.holds Tryz.pinned (.plain (OpenSpec.upto pairwiseOptimalSpec)) pairwiseOptimalUptoCard

/-- THE SECOND FORM's CARD OF 'apographlaw18.PairwiseTurned'. -/
def pairwiseTurnedUptoCard : Claim7 := { stood := { row := pairwiseTurnedUptoRow, standIns := [], harness := (true, "eeeb7ba5f59194c4fb892d9bd69c6f4887df1c3fcf5c3cbcdfbc4827380e6da7"), looks := true }, kinds := [], alts := [], laidByText := true, laidKinds := [.data, .data, .data, .sentinel, .sentinel], laidTests := true, laidLooks := .later }
def PairwiseTurnedUptoCardSaid : Prop := Claim7.holds Tryz.pinned (.plain (OpenSpec.upto pairwiseTurnedSpec)) pairwiseTurnedUptoCard

/-- THE SECOND FORM's CARD OF 'apographlaw18.PairwiseCounts'. -/
def pairwiseCountsUptoCard : Claim7 := { stood := { row := pairwiseCountsUptoRow, standIns := [], harness := (true, "eeeb7ba5f59194c4fb892d9bd69c6f4887df1c3fcf5c3cbcdfbc4827380e6da7"), looks := true }, kinds := [], alts := [], laidByText := true, laidKinds := [.data, .data, .data, .sentinel, .sentinel], laidTests := true, laidLooks := .later }
def PairwiseCountsUptoCardSaid : Prop := Claim7.holds Tryz.pinned (.plain (OpenSpec.upto pairwiseCountsSpec)) pairwiseCountsUptoCard

/-- THE SECOND FORM's CARD OF 'apographlaw18.PairwiseChecks'. -/
def pairwiseChecksUptoCard : Claim7 := { stood := { row := pairwiseChecksUptoRow, standIns := [], harness := (true, "eeeb7ba5f59194c4fb892d9bd69c6f4887df1c3fcf5c3cbcdfbc4827380e6da7"), looks := true }, kinds := [], alts := [], laidByText := true, laidKinds := [.data, .data, .data, .sentinel, .sentinel], laidTests := true, laidLooks := .later }
def PairwiseChecksUptoCardSaid : Prop := Claim7.holds Tryz.pinned (.plain (OpenSpec.upto pairwiseChecksSpec)) pairwiseChecksUptoCard

/-- THE SECOND FORM's CARD OF 'apographlaw18.PairwiseProofs'. -/
def pairwiseProofsUptoCard : Claim7 := { stood := { row := pairwiseProofsUptoRow, standIns := [], harness := (true, "eeeb7ba5f59194c4fb892d9bd69c6f4887df1c3fcf5c3cbcdfbc4827380e6da7"), looks := true }, kinds := [], alts := [], laidByText := true, laidKinds := [.data, .data, .data, .sentinel, .sentinel], laidTests := true, laidLooks := .later }
def PairwiseProofsUptoCardSaid : Prop := Claim7.holds Tryz.pinned (.plain (OpenSpec.upto pairwiseProofsSpec)) pairwiseProofsUptoCard

/-- THE SECOND FORM's CARD OF 'apographlaw18.PairwiseBounds'. -/
def pairwiseBoundsUptoCard : Claim7 := { stood := { row := pairwiseBoundsUptoRow, standIns := [], harness := (true, "eeeb7ba5f59194c4fb892d9bd69c6f4887df1c3fcf5c3cbcdfbc4827380e6da7"), looks := true }, kinds := [], alts := [], laidByText := true, laidKinds := [.data, .data, .data, .sentinel, .sentinel], laidTests := true, laidLooks := .later }
def PairwiseBoundsUptoCardSaid : Prop := Claim7.holds Tryz.pinned (.plain (OpenSpec.upto pairwiseBoundsSpec)) pairwiseBoundsUptoCard
end Rows
end Go.Proofs.YtmcgificpaeipaaGreatDoor
