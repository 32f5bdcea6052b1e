/-
  DERIVED. GIVEN WITH THE SEED: THE CARDS: each row of YtbfcfpmholkmeaaGreatDoorRows.lean that lists a variable, with what it lists TIED to the program's text (the seventh form; the later family's looks); each row that meets fmt, with fmt's text TOLD by the authors' own Lean function (tested against real Go, not proved from fmt's source: count such statements apart). THE CARD IS WHAT COUNTS. Prove the row's statement (the work); the ties are given (YtbfcfpmholkmeaaGreatDoorTie.lean); close each card by the builder's one call (the guide's Derived/Test/ToyasCard.lean, 'card_holds'). Laid BY PROGRAM, IN A SANDBOX (cutbox-door.mjs). By AI agents, Wed Nov 11 2026. No macro, syntax, notation, axiom, sorry.
-/
import Derived.Test.YtbfcfpmholkmeaaGreatDoorRows
import GoSem.ClaimSeven
namespace Go.Proofs.YtbfcfpmholkmeaaGreatDoor
namespace Rows

/-- THE TIED CARD OF 'apographtop.TopNormalForms'. -/
def topNormalFormsCard : Claim7 := { stood := { row := topNormalFormsRow, standIns := [], harness := (true, "e4bed1abe0e4f71a774e917a73c8dd67f5d592ae8e43c4c565310e203943e237"), looks := true }, kinds := [], alts := [], laidByText := true, laidKinds := [.data, .data, .data, .sentinel, .sentinel, .widerDeep], laidTests := true, laidLooks := .later }
def TopNormalFormsCardSaid : Prop := Claim7.holds Tryz.pinned (.plain (OpenSpec.ofChange topNormalFormsSpec)) topNormalFormsCard

/-- THE SECOND FORM's CARD OF 'apographtop.TopNormalForms'. -/
def topNormalFormsUptoCard : Claim7 := { stood := { row := topNormalFormsUptoRow, standIns := [], harness := (true, "e4bed1abe0e4f71a774e917a73c8dd67f5d592ae8e43c4c565310e203943e237"), looks := true }, kinds := [], alts := [], laidByText := true, laidKinds := [.data, .data, .data, .sentinel, .sentinel, .widerDeep], laidTests := true, laidLooks := .later }
def TopNormalFormsUptoCardSaid : Prop := Claim7.holds Tryz.pinned (.plain (OpenSpec.upto topNormalFormsSpec)) topNormalFormsUptoCard
end Rows
end Go.Proofs.YtbfcfpmholkmeaaGreatDoor
