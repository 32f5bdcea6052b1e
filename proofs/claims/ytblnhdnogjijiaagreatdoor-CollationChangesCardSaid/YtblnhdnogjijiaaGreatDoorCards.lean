/-
  DERIVED. GIVEN WITH THE SEED: THE CARDS: each row of YtblnhdnogjijiaaGreatDoorRows.lean that lists a variable, with what it lists TIED to the program's text (the seventh form; the later family's looks); each row that meets fmt, with fmt's text TOLD by the authors' own Lean function (tested against real Go, not proved from fmt's source: count such statements apart). THE CARD IS WHAT COUNTS. Prove the row's statement (the work); the ties are given (YtblnhdnogjijiaaGreatDoorTie.lean); close each card by the builder's one call (the guide's Derived/Test/ToyasCard.lean, 'card_holds'). Laid BY PROGRAM, IN A SANDBOX (cutbox-door.mjs). By AI agents, Wed Nov 11 2026. No macro, syntax, notation, axiom, sorry.
-/
import Derived.Test.YtblnhdnogjijiaaGreatDoorRows
import GoSem.ClaimSeven
namespace Go.Proofs.YtblnhdnogjijiaaGreatDoor
namespace Rows

/-- THE TIED CARD OF 'apographlaw22.CollationCollates'. -/
def collationCollatesCard : Claim7 := { stood := { row := collationCollatesRow, standIns := [], harness := (true, "a33e9cbe7952f7f382826246a114ee55385dea5ab4652de37f5d8544d92e8eb8"), looks := true }, kinds := [], alts := [], laidByText := true, laidKinds := [.data, .data, .data, .sentinel, .sentinel], laidTests := true, laidLooks := .later }
def CollationCollatesCardSaid : Prop := Claim7.holds Tryz.pinned (.plain (OpenSpec.ofChange collationCollatesSpec)) collationCollatesCard

/-- THE TIED CARD OF 'apographlaw22.CollationFinds'. -/
def collationFindsCard : Claim7 := { stood := { row := collationFindsRow, standIns := [], harness := (true, "a33e9cbe7952f7f382826246a114ee55385dea5ab4652de37f5d8544d92e8eb8"), looks := true }, kinds := [], alts := [], laidByText := true, laidKinds := [.data, .data, .data, .sentinel, .sentinel], laidTests := true, laidLooks := .later }
def CollationFindsCardSaid : Prop := Claim7.holds Tryz.pinned (.plain (OpenSpec.ofChange collationFindsSpec)) collationFindsCard

/-- THE TIED CARD OF 'apographlaw22.CollationReads'. -/
def collationReadsCard : Claim7 := { stood := { row := collationReadsRow, standIns := [], harness := (true, "a33e9cbe7952f7f382826246a114ee55385dea5ab4652de37f5d8544d92e8eb8"), looks := true }, kinds := [], alts := [], laidByText := true, laidKinds := [.data, .data, .data, .sentinel, .sentinel], laidTests := true, laidLooks := .later }
def CollationReadsCardSaid : Prop := Claim7.holds Tryz.pinned (.plain (OpenSpec.ofChange collationReadsSpec)) collationReadsCard

/-- THE TIED CARD OF 'apographlaw22.CollationTexts'. -/
def collationTextsCard : Claim7 := { stood := { row := collationTextsRow, standIns := [], harness := (true, "a33e9cbe7952f7f382826246a114ee55385dea5ab4652de37f5d8544d92e8eb8"), looks := true }, kinds := [], alts := [], laidByText := true, laidKinds := [.data, .data, .data, .sentinel, .sentinel], laidTests := true, laidLooks := .later }
def CollationTextsCardSaid : Prop := Claim7.holds Tryz.pinned (.plain (OpenSpec.ofChange collationTextsSpec)) collationTextsCard

/-- THE TIED CARD OF 'apographlaw22.CollationKeeps'. -/
def collationKeepsCard : Claim7 := { stood := { row := collationKeepsRow, standIns := [], harness := (true, "a33e9cbe7952f7f382826246a114ee55385dea5ab4652de37f5d8544d92e8eb8"), looks := true }, kinds := [], alts := [], laidByText := true, laidKinds := [.data, .data, .data, .sentinel, .sentinel], laidTests := true, laidLooks := .later }
def CollationKeepsCardSaid : Prop := Claim7.holds Tryz.pinned (.plain (OpenSpec.ofChange collationKeepsSpec)) collationKeepsCard

/-- THE TIED CARD OF 'apographlaw22.CollationChanges'. -/
def collationChangesCard : Claim7 := { stood := { row := collationChangesRow, standIns := [], harness := (true, "a33e9cbe7952f7f382826246a114ee55385dea5ab4652de37f5d8544d92e8eb8"), looks := true }, kinds := [], alts := [], laidByText := true, laidKinds := [.data, .data, .data, .sentinel, .sentinel], laidTests := true, laidLooks := .later }
def CollationChangesCardSaid : Prop := Claim7.holds Tryz.pinned (.plain (OpenSpec.ofChange collationChangesSpec)) collationChangesCard

/-- THE TIED CARD OF 'apographlaw22.CollationReorders'. -/
def collationReordersCard : Claim7 := { stood := { row := collationReordersRow, standIns := [], harness := (true, "a33e9cbe7952f7f382826246a114ee55385dea5ab4652de37f5d8544d92e8eb8"), looks := true }, kinds := [], alts := [], laidByText := true, laidKinds := [.data, .data, .data, .sentinel, .sentinel], laidTests := true, laidLooks := .later }
def CollationReordersCardSaid : Prop := Claim7.holds Tryz.pinned (.plain (OpenSpec.ofChange collationReordersSpec)) collationReordersCard

/-- THE TIED CARD OF 'apographlaw22.CollationLines'. -/
def collationLinesCard : Claim7 := { stood := { row := collationLinesRow, standIns := [], harness := (true, "a33e9cbe7952f7f382826246a114ee55385dea5ab4652de37f5d8544d92e8eb8"), looks := true }, kinds := [], alts := [], laidByText := true, laidKinds := [.data, .data, .data, .data, .sentinel, .sentinel, .pinned], laidTests := true, laidLooks := .later }
def CollationLinesCardSaid : Prop := Claim7.holds Tryz.pinned (.plain (OpenSpec.ofChange collationLinesSpec)) collationLinesCard

/-- THE TIED CARD OF 'apographtop.TopProgressive'. -/
def topProgressiveCard : Claim7 := { stood := { row := topProgressiveRow, standIns := [], harness := (true, "a33e9cbe7952f7f382826246a114ee55385dea5ab4652de37f5d8544d92e8eb8"), looks := true }, kinds := [], alts := [], laidByText := true, laidKinds := [.data, .data, .data, .sentinel, .sentinel], laidTests := true, laidLooks := .later }
def TopProgressiveCardSaid : Prop := Claim7.holds Tryz.pinned (.plain (OpenSpec.ofChange topProgressiveSpec)) topProgressiveCard

/-- THE SECOND FORM's CARD OF 'apographlaw22.CollationCollates'. -/
def collationCollatesUptoCard : Claim7 := { stood := { row := collationCollatesUptoRow, standIns := [], harness := (true, "a33e9cbe7952f7f382826246a114ee55385dea5ab4652de37f5d8544d92e8eb8"), looks := true }, kinds := [], alts := [], laidByText := true, laidKinds := [.data, .data, .data, .sentinel, .sentinel], laidTests := true, laidLooks := .later }
def CollationCollatesUptoCardSaid : Prop := Claim7.holds Tryz.pinned (.plain (OpenSpec.upto collationCollatesSpec)) collationCollatesUptoCard

/-- THE SECOND FORM's CARD OF 'apographlaw22.CollationFinds'. -/
def collationFindsUptoCard : Claim7 := { stood := { row := collationFindsUptoRow, standIns := [], harness := (true, "a33e9cbe7952f7f382826246a114ee55385dea5ab4652de37f5d8544d92e8eb8"), looks := true }, kinds := [], alts := [], laidByText := true, laidKinds := [.data, .data, .data, .sentinel, .sentinel], laidTests := true, laidLooks := .later }
def CollationFindsUptoCardSaid : Prop := Claim7.holds Tryz.pinned (.plain (OpenSpec.upto collationFindsSpec)) collationFindsUptoCard

/-- THE SECOND FORM's CARD OF 'apographlaw22.CollationReads'. -/
def collationReadsUptoCard : Claim7 := { stood := { row := collationReadsUptoRow, standIns := [], harness := (true, "a33e9cbe7952f7f382826246a114ee55385dea5ab4652de37f5d8544d92e8eb8"), looks := true }, kinds := [], alts := [], laidByText := true, laidKinds := [.data, .data, .data, .sentinel, .sentinel], laidTests := true, laidLooks := .later }
def CollationReadsUptoCardSaid : Prop := Claim7.holds Tryz.pinned (.plain (OpenSpec.upto collationReadsSpec)) collationReadsUptoCard

/-- THE SECOND FORM's CARD OF 'apographlaw22.CollationTexts'. -/
def collationTextsUptoCard : Claim7 := { stood := { row := collationTextsUptoRow, standIns := [], harness := (true, "a33e9cbe7952f7f382826246a114ee55385dea5ab4652de37f5d8544d92e8eb8"), looks := true }, kinds := [], alts := [], laidByText := true, laidKinds := [.data, .data, .data, .sentinel, .sentinel], laidTests := true, laidLooks := .later }
def CollationTextsUptoCardSaid : Prop := Claim7.holds Tryz.pinned (.plain (OpenSpec.upto collationTextsSpec)) collationTextsUptoCard

/-- THE SECOND FORM's CARD OF 'apographlaw22.CollationKeeps'. -/
def collationKeepsUptoCard : Claim7 := { stood := { row := collationKeepsUptoRow, standIns := [], harness := (true, "a33e9cbe7952f7f382826246a114ee55385dea5ab4652de37f5d8544d92e8eb8"), looks := true }, kinds := [], alts := [], laidByText := true, laidKinds := [.data, .data, .data, .sentinel, .sentinel], laidTests := true, laidLooks := .later }
def CollationKeepsUptoCardSaid : Prop := Claim7.holds Tryz.pinned (.plain (OpenSpec.upto collationKeepsSpec)) collationKeepsUptoCard

/-- THE SECOND FORM's CARD OF 'apographlaw22.CollationChanges'. -/
def collationChangesUptoCard : Claim7 := { stood := { row := collationChangesUptoRow, standIns := [], harness := (true, "a33e9cbe7952f7f382826246a114ee55385dea5ab4652de37f5d8544d92e8eb8"), looks := true }, kinds := [], alts := [], laidByText := true, laidKinds := [.data, .data, .data, .sentinel, .sentinel], laidTests := true, laidLooks := .later }
def CollationChangesUptoCardSaid : Prop := Claim7.holds Tryz.pinned (.plain (OpenSpec.upto collationChangesSpec)) collationChangesUptoCard

/-- THE SECOND FORM's CARD OF 'apographlaw22.CollationReorders'. -/
def collationReordersUptoCard : Claim7 := { stood := { row := collationReordersUptoRow, standIns := [], harness := (true, "a33e9cbe7952f7f382826246a114ee55385dea5ab4652de37f5d8544d92e8eb8"), looks := true }, kinds := [], alts := [], laidByText := true, laidKinds := [.data, .data, .data, .sentinel, .sentinel], laidTests := true, laidLooks := .later }
def CollationReordersUptoCardSaid : Prop := Claim7.holds Tryz.pinned (.plain (OpenSpec.upto collationReordersSpec)) collationReordersUptoCard

/-- THE SECOND FORM's CARD OF 'apographlaw22.CollationLines'. -/
def collationLinesUptoCard : Claim7 := { stood := { row := collationLinesUptoRow, standIns := [], harness := (true, "a33e9cbe7952f7f382826246a114ee55385dea5ab4652de37f5d8544d92e8eb8"), looks := true }, kinds := [], alts := [], laidByText := true, laidKinds := [.data, .data, .data, .data, .sentinel, .sentinel, .pinned], laidTests := true, laidLooks := .later }
def CollationLinesUptoCardSaid : Prop := Claim7.holds Tryz.pinned (.plain (OpenSpec.upto collationLinesSpec)) collationLinesUptoCard

/-- THE SECOND FORM's CARD OF 'apographtop.TopProgressive'. -/
def topProgressiveUptoCard : Claim7 := { stood := { row := topProgressiveUptoRow, standIns := [], harness := (true, "a33e9cbe7952f7f382826246a114ee55385dea5ab4652de37f5d8544d92e8eb8"), looks := true }, kinds := [], alts := [], laidByText := true, laidKinds := [.data, .data, .data, .sentinel, .sentinel], laidTests := true, laidLooks := .later }
def TopProgressiveUptoCardSaid : Prop := Claim7.holds Tryz.pinned (.plain (OpenSpec.upto topProgressiveSpec)) topProgressiveUptoCard
end Rows
end Go.Proofs.YtblnhdnogjijiaaGreatDoor
