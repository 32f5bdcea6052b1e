/-
  DERIVED. GIVEN WITH THE SEED: THE CARDS: each row of YtefieebkankfoaaGreatDoorRows.lean that lists a variable, with what it lists TIED to the program's text (the seventh form; the later family's looks); each row that meets fmt, with fmt's text TOLD by the authors' own Lean function (tested against real Go, not proved from fmt's source: count such statements apart). THE CARD IS WHAT COUNTS. Prove the row's statement (the work); the ties are given (YtefieebkankfoaaGreatDoorTie.lean); close each card by the builder's one call (the guide's Derived/Test/ToyasCard.lean, 'card_holds'). Laid BY PROGRAM, IN A SANDBOX (cutbox-door.mjs). By AI agents, Wed Nov 11 2026. No macro, syntax, notation, axiom, sorry.
-/
import Derived.Test.YtefieebkankfoaaGreatDoorRows
import GoSem.ClaimSeven
namespace Go.Proofs.YtefieebkankfoaaGreatDoor
namespace Rows

/-- THE TIED CARD OF 'apographlaw22.CollationKeeps'. -/
def collationKeepsCard : Claim7 := { stood := { row := collationKeepsRow, standIns := [], harness := (true, "27597454c744800805070ea993a6c7ef5f1435d54266d0de058cda0719a2f829"), looks := true }, kinds := [], alts := [], laidByText := true, laidKinds := [.data, .data, .data, .sentinel, .sentinel], laidTests := true, laidLooks := .later }
def CollationKeepsCardSaid : Prop := Claim7.holds Tryz.pinned (.plain (OpenSpec.ofChange collationKeepsSpec)) collationKeepsCard

/-- THE TIED CARD OF 'apographlaw22.CollationReorders'. -/
def collationReordersCard : Claim7 := { stood := { row := collationReordersRow, standIns := [], harness := (true, "27597454c744800805070ea993a6c7ef5f1435d54266d0de058cda0719a2f829"), looks := true }, kinds := [], alts := [], laidByText := true, laidKinds := [.data, .data, .data, .sentinel, .sentinel], laidTests := true, laidLooks := .later }
def CollationReordersCardSaid : Prop := Claim7.holds Tryz.pinned (.plain (OpenSpec.ofChange collationReordersSpec)) collationReordersCard

/-- THE TIED CARD OF 'apographlaw22.CollationLines'. -/
def collationLinesCard : Claim7 := { stood := { row := collationLinesRow, standIns := [], harness := (true, "27597454c744800805070ea993a6c7ef5f1435d54266d0de058cda0719a2f829"), looks := true }, kinds := [], alts := [], laidByText := true, laidKinds := [.data, .data, .data, .data, .sentinel, .sentinel, .pinned], laidTests := true, laidLooks := .later }
def CollationLinesCardSaid : Prop := Claim7.holds Tryz.pinned (.plain (OpenSpec.ofChange collationLinesSpec)) collationLinesCard

/-- THE SECOND FORM's CARD OF 'apographlaw22.CollationKeeps'. -/
def collationKeepsUptoCard : Claim7 := { stood := { row := collationKeepsUptoRow, standIns := [], harness := (true, "27597454c744800805070ea993a6c7ef5f1435d54266d0de058cda0719a2f829"), looks := true }, kinds := [], alts := [], laidByText := true, laidKinds := [.data, .data, .data, .sentinel, .sentinel], laidTests := true, laidLooks := .later }
def CollationKeepsUptoCardSaid : Prop := Claim7.holds Tryz.pinned (.plain (OpenSpec.upto collationKeepsSpec)) collationKeepsUptoCard

/-- THE SECOND FORM's CARD OF 'apographlaw22.CollationReorders'. -/
def collationReordersUptoCard : Claim7 := { stood := { row := collationReordersUptoRow, standIns := [], harness := (true, "27597454c744800805070ea993a6c7ef5f1435d54266d0de058cda0719a2f829"), looks := true }, kinds := [], alts := [], laidByText := true, laidKinds := [.data, .data, .data, .sentinel, .sentinel], laidTests := true, laidLooks := .later }
def CollationReordersUptoCardSaid : Prop := Claim7.holds Tryz.pinned (.plain (OpenSpec.upto collationReordersSpec)) collationReordersUptoCard

/-- THE SECOND FORM's CARD OF 'apographlaw22.CollationLines'. -/
def collationLinesUptoCard : Claim7 := { stood := { row := collationLinesUptoRow, standIns := [], harness := (true, "27597454c744800805070ea993a6c7ef5f1435d54266d0de058cda0719a2f829"), looks := true }, kinds := [], alts := [], laidByText := true, laidKinds := [.data, .data, .data, .data, .sentinel, .sentinel, .pinned], laidTests := true, laidLooks := .later }
def CollationLinesUptoCardSaid : Prop := Claim7.holds Tryz.pinned (.plain (OpenSpec.upto collationLinesSpec)) collationLinesUptoCard
end Rows
end Go.Proofs.YtefieebkankfoaaGreatDoor
