/-
  DERIVED. GIVEN WITH THE SEED: THE CARDS: each row of YthadgaboakipoaaGreatDoorRows.lean that lists a variable, with what it lists TIED to the program's text (the seventh form; the later family's looks); each row that meets fmt, with fmt's text TOLD by the authors' own Lean function (tested against real Go, not proved from fmt's source: count such statements apart). THE CARD IS WHAT COUNTS. Prove the row's statement (the work); the ties are given (YthadgaboakipoaaGreatDoorTie.lean); close each card by the builder's one call (the guide's Derived/Test/ToyasCard.lean, 'card_holds'). Laid BY PROGRAM, IN A SANDBOX (cutbox-door.mjs). By AI agents, Wed Nov 11 2026. No macro, syntax, notation, axiom, sorry.
-/
import Derived.Test.YthadgaboakipoaaGreatDoorRows
import GoSem.ClaimSeven
namespace Go.Proofs.YthadgaboakipoaaGreatDoor
namespace Rows

/-- THE TIED CARD OF 'apographlaw21.ProgressiveOrder'. -/
def progressiveOrderCard : Claim7 := { stood := { row := progressiveOrderRow, standIns := [], harness := (true, "7080c7f546c29ed8c1cc3509f869e7472f8993486f61c317fc165cbc41be9449"), looks := true }, kinds := [], alts := [], laidByText := true, laidKinds := [.data, .data, .data, .sentinel, .sentinel], laidTests := true, laidLooks := .later }
def ProgressiveOrderCardSaid : Prop := Claim7.holds Tryz.pinned (.plain (OpenSpec.ofChange progressiveOrderSpec)) progressiveOrderCard

/-- THE TIED CARD OF 'apographlaw20.AlignproofPotentials'. -/
def alignproofPotentialsCard : Claim7 := { stood := { row := alignproofPotentialsRow, standIns := [], harness := (true, "7080c7f546c29ed8c1cc3509f869e7472f8993486f61c317fc165cbc41be9449"), looks := true }, kinds := [], alts := [], laidByText := true, laidKinds := [.data, .data, .data, .sentinel, .sentinel], laidTests := true, laidLooks := .later }
def AlignproofPotentialsCardSaid : Prop := Claim7.holds Tryz.pinned (.plain (OpenSpec.ofChange alignproofPotentialsSpec)) alignproofPotentialsCard

/-- THE TIED CARD OF 'apographlaw20.AlignproofChecks'. -/
def alignproofChecksCard : Claim7 := { stood := { row := alignproofChecksRow, standIns := [], harness := (true, "7080c7f546c29ed8c1cc3509f869e7472f8993486f61c317fc165cbc41be9449"), looks := true }, kinds := [], alts := [], laidByText := true, laidKinds := [.data, .data, .data, .sentinel, .sentinel], laidTests := true, laidLooks := .later }
def AlignproofChecksCardSaid : Prop := Claim7.holds Tryz.pinned (.plain (OpenSpec.ofChange alignproofChecksSpec)) alignproofChecksCard

/-- THE SECOND FORM's CARD OF 'apographlaw21.ProgressiveOrder'. -/
def progressiveOrderUptoCard : Claim7 := { stood := { row := progressiveOrderUptoRow, standIns := [], harness := (true, "7080c7f546c29ed8c1cc3509f869e7472f8993486f61c317fc165cbc41be9449"), looks := true }, kinds := [], alts := [], laidByText := true, laidKinds := [.data, .data, .data, .sentinel, .sentinel], laidTests := true, laidLooks := .later }
def ProgressiveOrderUptoCardSaid : Prop := Claim7.holds Tryz.pinned (.plain (OpenSpec.upto progressiveOrderSpec)) progressiveOrderUptoCard

/-- THE SECOND FORM's CARD OF 'apographlaw20.AlignproofPotentials'. -/
def alignproofPotentialsUptoCard : Claim7 := { stood := { row := alignproofPotentialsUptoRow, standIns := [], harness := (true, "7080c7f546c29ed8c1cc3509f869e7472f8993486f61c317fc165cbc41be9449"), looks := true }, kinds := [], alts := [], laidByText := true, laidKinds := [.data, .data, .data, .sentinel, .sentinel], laidTests := true, laidLooks := .later }
def AlignproofPotentialsUptoCardSaid : Prop := Claim7.holds Tryz.pinned (.plain (OpenSpec.upto alignproofPotentialsSpec)) alignproofPotentialsUptoCard

/-- THE SECOND FORM's CARD OF 'apographlaw20.AlignproofChecks'. -/
def alignproofChecksUptoCard : Claim7 := { stood := { row := alignproofChecksUptoRow, standIns := [], harness := (true, "7080c7f546c29ed8c1cc3509f869e7472f8993486f61c317fc165cbc41be9449"), looks := true }, kinds := [], alts := [], laidByText := true, laidKinds := [.data, .data, .data, .sentinel, .sentinel], laidTests := true, laidLooks := .later }
def AlignproofChecksUptoCardSaid : Prop := Claim7.holds Tryz.pinned (.plain (OpenSpec.upto alignproofChecksSpec)) alignproofChecksUptoCard
end Rows
end Go.Proofs.YthadgaboakipoaaGreatDoor
