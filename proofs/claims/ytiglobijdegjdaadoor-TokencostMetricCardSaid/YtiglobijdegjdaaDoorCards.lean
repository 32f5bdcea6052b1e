/-
  DERIVED. GIVEN WITH THE SEED: THE CARDS: each row of YtiglobijdegjdaaDoorRows.lean that lists a variable, with what it lists TIED to the program's text (the seventh form; the later family's looks); each row that meets fmt, with fmt's text TOLD by the authors' own Lean function (tested against real Go, not proved from fmt's source: count such statements apart). THE CARD IS WHAT COUNTS. Prove the row's statement (the work); the ties are given (YtiglobijdegjdaaDoorTie.lean); close each card by the builder's one call (the guide's Derived/Test/ToyasCard.lean, 'card_holds'). Laid BY PROGRAM, IN A SANDBOX (cutbox-door.mjs). By AI agents, Wed Nov 11 2026. No macro, syntax, notation, axiom, sorry.
-/
import Derived.Test.YtiglobijdegjdaaDoorRows
import GoSem.ClaimSeven
namespace Go.Proofs.YtiglobijdegjdaaDoor
namespace Rows

/-- THE TIED CARD OF 'apographlaw17.TokencostPairs'. -/
def tokencostPairsCard : Claim7 := { stood := { row := tokencostPairsRow, standIns := [], harness := (true, "28692782097a374b4e0f7a632efec21f45e145e988e45c574558877b0063dbc4"), looks := true }, kinds := [], alts := [], laidByText := true, laidKinds := [.data, .data, .data, .sentinel, .sentinel], laidTests := true, laidLooks := .later }
def TokencostPairsCardSaid : Prop := Claim7.holds Tryd.pinned (.plain (OpenSpec.ofChange tokencostPairsSpec)) tokencostPairsCard

/-- THE TIED CARD OF 'apographlaw17.TokencostSymmetric'. -/
def tokencostSymmetricCard : Claim7 := { stood := { row := tokencostSymmetricRow, standIns := [], harness := (true, "28692782097a374b4e0f7a632efec21f45e145e988e45c574558877b0063dbc4"), looks := true }, kinds := [], alts := [], laidByText := true, laidKinds := [.data, .data, .data, .sentinel, .sentinel], laidTests := true, laidLooks := .later }
def TokencostSymmetricCardSaid : Prop := Claim7.holds Tryd.pinned (.plain (OpenSpec.ofChange tokencostSymmetricSpec)) tokencostSymmetricCard

/-- THE TIED CARD OF 'apographlaw17.TokencostDoubled'. -/
def tokencostDoubledCard : Claim7 := { stood := { row := tokencostDoubledRow, standIns := [], harness := (true, "28692782097a374b4e0f7a632efec21f45e145e988e45c574558877b0063dbc4"), looks := true }, kinds := [], alts := [], laidByText := true, laidKinds := [.data, .data, .data, .sentinel, .sentinel], laidTests := true, laidLooks := .later }
def TokencostDoubledCardSaid : Prop := Claim7.holds Tryd.pinned (.plain (OpenSpec.ofChange tokencostDoubledSpec)) tokencostDoubledCard

/-- THE TIED CARD OF 'apographlaw17.TokencostMatrix'. -/
def tokencostMatrixCard : Claim7 := { stood := { row := tokencostMatrixRow, standIns := [], harness := (true, "28692782097a374b4e0f7a632efec21f45e145e988e45c574558877b0063dbc4"), looks := true }, kinds := [], alts := [], laidByText := true, laidKinds := [.data, .data, .data, .sentinel, .sentinel], laidTests := true, laidLooks := .later }
def TokencostMatrixCardSaid : Prop := Claim7.holds Tryd.pinned (.plain (OpenSpec.ofChange tokencostMatrixSpec)) tokencostMatrixCard

/-- THE TIED CARD OF 'apographlaw17.TokencostOrder'. -/
def tokencostOrderCard : Claim7 := { stood := { row := tokencostOrderRow, standIns := [], harness := (true, "28692782097a374b4e0f7a632efec21f45e145e988e45c574558877b0063dbc4"), looks := true }, kinds := [], alts := [], laidByText := true, laidKinds := [.data, .data, .data, .sentinel, .sentinel], laidTests := true, laidLooks := .later }
def TokencostOrderCardSaid : Prop := Claim7.holds Tryd.pinned (.plain (OpenSpec.ofChange tokencostOrderSpec)) tokencostOrderCard

/-- THE TIED CARD OF 'apographlaw17.TokencostMetric'. -/
def tokencostMetricCard : Claim7 := { stood := { row := tokencostMetricRow, standIns := [], harness := (true, "28692782097a374b4e0f7a632efec21f45e145e988e45c574558877b0063dbc4"), looks := true }, kinds := [], alts := [], laidByText := true, laidKinds := [.data, .data, .data, .sentinel, .sentinel], laidTests := true, laidLooks := .later }
def TokencostMetricCardSaid : Prop := Claim7.holds Tryd.pinned (.plain (OpenSpec.ofChange tokencostMetricSpec)) tokencostMetricCard

/-- THE TIED CARD OF 'apographlaw17.TokencostDefault'. -/
def tokencostDefaultCard : Claim7 := { stood := { row := tokencostDefaultRow, standIns := [], harness := (true, "28692782097a374b4e0f7a632efec21f45e145e988e45c574558877b0063dbc4"), looks := true }, kinds := [], alts := [], laidByText := true, laidKinds := [.data, .data, .data, .sentinel, .sentinel], laidTests := true, laidLooks := .later }
def TokencostDefaultCardSaid : Prop := Claim7.holds Tryd.pinned (.plain (OpenSpec.ofChange tokencostDefaultSpec)) tokencostDefaultCard

/-- THE SECOND FORM's CARD OF 'apographlaw17.TokencostPairs'. -/
def tokencostPairsUptoCard : Claim7 := { stood := { row := tokencostPairsUptoRow, standIns := [], harness := (true, "28692782097a374b4e0f7a632efec21f45e145e988e45c574558877b0063dbc4"), looks := true }, kinds := [], alts := [], laidByText := true, laidKinds := [.data, .data, .data, .sentinel, .sentinel], laidTests := true, laidLooks := .later }
def TokencostPairsUptoCardSaid : Prop := Claim7.holds Tryd.pinned (.plain (OpenSpec.upto tokencostPairsSpec)) tokencostPairsUptoCard

/-- THE SECOND FORM's CARD OF 'apographlaw17.TokencostSymmetric'. -/
def tokencostSymmetricUptoCard : Claim7 := { stood := { row := tokencostSymmetricUptoRow, standIns := [], harness := (true, "28692782097a374b4e0f7a632efec21f45e145e988e45c574558877b0063dbc4"), looks := true }, kinds := [], alts := [], laidByText := true, laidKinds := [.data, .data, .data, .sentinel, .sentinel], laidTests := true, laidLooks := .later }
def TokencostSymmetricUptoCardSaid : Prop := Claim7.holds Tryd.pinned (.plain (OpenSpec.upto tokencostSymmetricSpec)) tokencostSymmetricUptoCard

/-- THE SECOND FORM's CARD OF 'apographlaw17.TokencostDoubled'. -/
def tokencostDoubledUptoCard : Claim7 := { stood := { row := tokencostDoubledUptoRow, standIns := [], harness := (true, "28692782097a374b4e0f7a632efec21f45e145e988e45c574558877b0063dbc4"), looks := true }, kinds := [], alts := [], laidByText := true, laidKinds := [.data, .data, .data, .sentinel, .sentinel], laidTests := true, laidLooks := .later }
def TokencostDoubledUptoCardSaid : Prop := Claim7.holds Tryd.pinned (.plain (OpenSpec.upto tokencostDoubledSpec)) tokencostDoubledUptoCard

/-- THE SECOND FORM's CARD OF 'apographlaw17.TokencostMatrix'. -/
def tokencostMatrixUptoCard : Claim7 := { stood := { row := tokencostMatrixUptoRow, standIns := [], harness := (true, "28692782097a374b4e0f7a632efec21f45e145e988e45c574558877b0063dbc4"), looks := true }, kinds := [], alts := [], laidByText := true, laidKinds := [.data, .data, .data, .sentinel, .sentinel], laidTests := true, laidLooks := .later }
def TokencostMatrixUptoCardSaid : Prop := Claim7.holds Tryd.pinned (.plain (OpenSpec.upto tokencostMatrixSpec)) tokencostMatrixUptoCard

/-- THE SECOND FORM's CARD OF 'apographlaw17.TokencostOrder'. -/
def tokencostOrderUptoCard : Claim7 := { stood := { row := tokencostOrderUptoRow, standIns := [], harness := (true, "28692782097a374b4e0f7a632efec21f45e145e988e45c574558877b0063dbc4"), looks := true }, kinds := [], alts := [], laidByText := true, laidKinds := [.data, .data, .data, .sentinel, .sentinel], laidTests := true, laidLooks := .later }
def TokencostOrderUptoCardSaid : Prop := Claim7.holds Tryd.pinned (.plain (OpenSpec.upto tokencostOrderSpec)) tokencostOrderUptoCard

/-- THE SECOND FORM's CARD OF 'apographlaw17.TokencostMetric'. -/
def tokencostMetricUptoCard : Claim7 := { stood := { row := tokencostMetricUptoRow, standIns := [], harness := (true, "28692782097a374b4e0f7a632efec21f45e145e988e45c574558877b0063dbc4"), looks := true }, kinds := [], alts := [], laidByText := true, laidKinds := [.data, .data, .data, .sentinel, .sentinel], laidTests := true, laidLooks := .later }
def TokencostMetricUptoCardSaid : Prop := Claim7.holds Tryd.pinned (.plain (OpenSpec.upto tokencostMetricSpec)) tokencostMetricUptoCard

/-- THE SECOND FORM's CARD OF 'apographlaw17.TokencostDefault'. -/
def tokencostDefaultUptoCard : Claim7 := { stood := { row := tokencostDefaultUptoRow, standIns := [], harness := (true, "28692782097a374b4e0f7a632efec21f45e145e988e45c574558877b0063dbc4"), looks := true }, kinds := [], alts := [], laidByText := true, laidKinds := [.data, .data, .data, .sentinel, .sentinel], laidTests := true, laidLooks := .later }
def TokencostDefaultUptoCardSaid : Prop := Claim7.holds Tryd.pinned (.plain (OpenSpec.upto tokencostDefaultSpec)) tokencostDefaultUptoCard
end Rows
end Go.Proofs.YtiglobijdegjdaaDoor
