/-
  NARROWER THAN 'FOR EVERY INPUT', by the rows' own cells (each row's printed sentence says how): ProgressiveAligns: laid · ProgressiveValid: laid · ProgressiveTwo: laid · ProgressiveExcess: laid · ProgressiveAdds: laid · ProgressiveRefines: laid · ProgressiveChanges: laid · ProgressiveOrder: laid · MultiwayAligns: laid · MultiwayMoves: laid · MultiwaySymmetry: laid · MultiwayValid: laid · MultiwayBest: laid · MultiwayProjects: laid · MultiwayChecks: laid · MultiwayTwo: laid · MultiwayCosts: laid · MultiwayBound: laid.
  DERIVED. THE GIVEN ROWS OF THIS SEAT. 18 by the template 'for every input the law returns true; each argument reads behind the call as it read before'; 0 by the template 'total and deterministic' (their statements: YtofikdpbagnjbaaGreatDoorTotals.lean).
  GIVEN WITH THE SEED: the statements are not yours to turn. If you find one false, say at which input.
  Laid BY PROGRAM, IN A SANDBOX (cutbox-rows.mjs): the forced cells as the released guide's own fill.sh prints them over the translation bf82609df092affd… (all of the seat's roots in one cut). By AI agents, Wed Nov 11 2026. No macro, syntax, notation, axiom, sorry.
-/
import Derived.Test.YtofikdpbagnjbaaGreatDoorChecked
import GoSem.Claim
import GoSem.ClaimJoined
import GoSem.ClaimMapViews
import Derived.JoinedTies
import Derived.KernelRfl
namespace Go.Proofs.YtofikdpbagnjbaaGreatDoor
/- THE CELL 'sum', in the pinned program and in every row, IS THE sha256 OF THE DUMP (.gsa) THAT YtofikdpbagnjbaaGreatDoorProg.lean LOADS. Nothing in Lean hashes anything: it is a label: what it is worth is what the hold of that sum in a sandbox is worth. -/
noncomputable def Tryz.pinned : Pinned := { name := "ytofikdpbagnjbaagreatdoor", sum := "bf82609df092affdf69e2cda02ea3c4b655a907e63c8fac2886e6d707f787404", checked := Tryz.checked }
namespace Rows
def none {H : Type} : Left H := { results := [], args := [] }

/- WHAT THE LISTED PACKAGE-LEVEL VARIABLES READ AS WHEN THE CALL BEGINS. Each datum BY PROGRAM (the guide's laid-datum.mjs) off the statement by which the dump's own 'gosem.cut.vars' lays the variable. In a bare row this is a premise. The card (YtofikdpbagnjbaaGreatDoorCards.lean) ties it to the program's text. -/
def laid_math_bits_deBruijn32tab {H : Type} : DataW H := .agg [.lit (.int .u8 0), .lit (.int .u8 1), .lit (.int .u8 28), .lit (.int .u8 2), .lit (.int .u8 29), .lit (.int .u8 14), .lit (.int .u8 24), .lit (.int .u8 3), .lit (.int .u8 30), .lit (.int .u8 22), .lit (.int .u8 20), .lit (.int .u8 15), .lit (.int .u8 25), .lit (.int .u8 17), .lit (.int .u8 4), .lit (.int .u8 8), .lit (.int .u8 31), .lit (.int .u8 27), .lit (.int .u8 13), .lit (.int .u8 23), .lit (.int .u8 21), .lit (.int .u8 19), .lit (.int .u8 16), .lit (.int .u8 7), .lit (.int .u8 26), .lit (.int .u8 12), .lit (.int .u8 18), .lit (.int .u8 6), .lit (.int .u8 11), .lit (.int .u8 5), .lit (.int .u8 10), .lit (.int .u8 9)]
def laid_math_bits_deBruijn64tab {H : Type} : DataW H := .agg [.lit (.int .u8 0), .lit (.int .u8 1), .lit (.int .u8 56), .lit (.int .u8 2), .lit (.int .u8 57), .lit (.int .u8 49), .lit (.int .u8 28), .lit (.int .u8 3), .lit (.int .u8 61), .lit (.int .u8 58), .lit (.int .u8 42), .lit (.int .u8 50), .lit (.int .u8 38), .lit (.int .u8 29), .lit (.int .u8 17), .lit (.int .u8 4), .lit (.int .u8 62), .lit (.int .u8 47), .lit (.int .u8 59), .lit (.int .u8 36), .lit (.int .u8 45), .lit (.int .u8 43), .lit (.int .u8 51), .lit (.int .u8 22), .lit (.int .u8 53), .lit (.int .u8 39), .lit (.int .u8 33), .lit (.int .u8 30), .lit (.int .u8 24), .lit (.int .u8 18), .lit (.int .u8 12), .lit (.int .u8 5), .lit (.int .u8 63), .lit (.int .u8 55), .lit (.int .u8 48), .lit (.int .u8 27), .lit (.int .u8 60), .lit (.int .u8 41), .lit (.int .u8 37), .lit (.int .u8 16), .lit (.int .u8 46), .lit (.int .u8 35), .lit (.int .u8 44), .lit (.int .u8 21), .lit (.int .u8 52), .lit (.int .u8 32), .lit (.int .u8 23), .lit (.int .u8 11), .lit (.int .u8 54), .lit (.int .u8 26), .lit (.int .u8 40), .lit (.int .u8 15), .lit (.int .u8 34), .lit (.int .u8 20), .lit (.int .u8 31), .lit (.int .u8 10), .lit (.int .u8 25), .lit (.int .u8 14), .lit (.int .u8 19), .lit (.int .u8 9), .lit (.int .u8 13), .lit (.int .u8 8), .lit (.int .u8 7), .lit (.int .u8 6)]
def laid_internal_strconv_uint64pow10 {H : Type} : DataW H := .agg [.lit (.int .u64 1), .lit (.int .u64 10), .lit (.int .u64 100), .lit (.int .u64 1000), .lit (.int .u64 10000), .lit (.int .u64 100000), .lit (.int .u64 1000000), .lit (.int .u64 10000000), .lit (.int .u64 100000000), .lit (.int .u64 1000000000), .lit (.int .u64 10000000000), .lit (.int .u64 100000000000), .lit (.int .u64 1000000000000), .lit (.int .u64 10000000000000), .lit (.int .u64 100000000000000), .lit (.int .u64 1000000000000000), .lit (.int .u64 10000000000000000), .lit (.int .u64 100000000000000000), .lit (.int .u64 1000000000000000000), .lit (.int .u64 10000000000000000000)]
def laid_strconv_ErrRange {H : Type} : DataW H := .iface "*errors.errorString" (.ptr (.agg [.lit (.string [118, 97, 108, 117, 101, 32, 111, 117, 116, 32, 111, 102, 32, 114, 97, 110, 103, 101])]))
def laid_strconv_ErrSyntax {H : Type} : DataW H := .iface "*errors.errorString" (.ptr (.agg [.lit (.string [105, 110, 118, 97, 108, 105, 100, 32, 115, 121, 110, 116, 97, 120])]))

/-- 'apographlaw21.ProgressiveAligns': WHATEVER THE INPUT: true; the input reads as it did. -/
def progressiveAlignsSpec : ChangeSpec := { name := "progressiveAligns", fn := fun _ => fun
  | [d1, d2] => { results := [.lit (.bool true)], args := [d1, d2] }
  | _ => none }
def progressiveAlignsRow : OpenClaim := { program := "ytofikdpbagnjbaagreatdoor", sum := "bf82609df092affdf69e2cda02ea3c4b655a907e63c8fac2886e6d707f787404", func := "apograph/apographlaw21.ProgressiveAligns", spec := "progressiveAligns", inPlace := ["internal/bytealg.IndexByteString"], unfollowed := true, recurses := true, named := ["strconv.ErrSyntax", "strconv.ErrRange", "internal/strconv.uint64pow10", "math/bits.deBruijn32tab", "math/bits.deBruijn64tab"], apart := false, laid := [("math/bits.deBruijn32tab", laid_math_bits_deBruijn32tab), ("math/bits.deBruijn64tab", laid_math_bits_deBruijn64tab), ("internal/strconv.uint64pow10", laid_internal_strconv_uint64pow10), ("strconv.ErrRange", laid_strconv_ErrRange), ("strconv.ErrSyntax", laid_strconv_ErrSyntax)] }
def ProgressiveAlignsSaid : Prop := progressiveAlignsRow.holds Tryz.pinned (OpenSpec.ofChange progressiveAlignsSpec)

/-- ITS FALSE NEIGHBOUR: 'it returns false'. Refute it at one input. -/
def progressiveAlignsWrong : ChangeSpec := { name := "progressiveAligns", fn := fun _ => fun
  | [d1, d2] => { results := [.lit (.bool false)], args := [d1, d2] }
  | _ => none }
def ProgressiveAlignsWrongFalsely : Prop := progressiveAlignsRow.holds Tryz.pinned (OpenSpec.ofChange progressiveAlignsWrong)

/-- 'apographlaw21.ProgressiveValid': WHATEVER THE INPUT: true; the input reads as it did. -/
def progressiveValidSpec : ChangeSpec := { name := "progressiveValid", fn := fun _ => fun
  | [d1, d2, d3] => { results := [.lit (.bool true)], args := [d1, d2, d3] }
  | _ => none }
def progressiveValidRow : OpenClaim := { program := "ytofikdpbagnjbaagreatdoor", sum := "bf82609df092affdf69e2cda02ea3c4b655a907e63c8fac2886e6d707f787404", func := "apograph/apographlaw21.ProgressiveValid", spec := "progressiveValid", inPlace := ["internal/bytealg.IndexByteString"], unfollowed := true, recurses := true, named := ["internal/strconv.uint64pow10", "math/bits.deBruijn32tab", "math/bits.deBruijn64tab", "strconv.ErrSyntax", "strconv.ErrRange"], apart := false, laid := [("math/bits.deBruijn32tab", laid_math_bits_deBruijn32tab), ("math/bits.deBruijn64tab", laid_math_bits_deBruijn64tab), ("internal/strconv.uint64pow10", laid_internal_strconv_uint64pow10), ("strconv.ErrRange", laid_strconv_ErrRange), ("strconv.ErrSyntax", laid_strconv_ErrSyntax)] }
def ProgressiveValidSaid : Prop := progressiveValidRow.holds Tryz.pinned (OpenSpec.ofChange progressiveValidSpec)

/-- ITS FALSE NEIGHBOUR: 'it returns false'. Refute it at one input. -/
def progressiveValidWrong : ChangeSpec := { name := "progressiveValid", fn := fun _ => fun
  | [d1, d2, d3] => { results := [.lit (.bool false)], args := [d1, d2, d3] }
  | _ => none }
def ProgressiveValidWrongFalsely : Prop := progressiveValidRow.holds Tryz.pinned (OpenSpec.ofChange progressiveValidWrong)

/-- 'apographlaw21.ProgressiveTwo': WHATEVER THE INPUT: true; the input reads as it did. -/
def progressiveTwoSpec : ChangeSpec := { name := "progressiveTwo", fn := fun _ => fun
  | [d1, d2, d3] => { results := [.lit (.bool true)], args := [d1, d2, d3] }
  | _ => none }
def progressiveTwoRow : OpenClaim := { program := "ytofikdpbagnjbaagreatdoor", sum := "bf82609df092affdf69e2cda02ea3c4b655a907e63c8fac2886e6d707f787404", func := "apograph/apographlaw21.ProgressiveTwo", spec := "progressiveTwo", inPlace := ["internal/bytealg.IndexByteString"], unfollowed := true, recurses := true, named := ["internal/strconv.uint64pow10", "math/bits.deBruijn32tab", "math/bits.deBruijn64tab", "strconv.ErrSyntax", "strconv.ErrRange"], apart := false, laid := [("math/bits.deBruijn32tab", laid_math_bits_deBruijn32tab), ("math/bits.deBruijn64tab", laid_math_bits_deBruijn64tab), ("internal/strconv.uint64pow10", laid_internal_strconv_uint64pow10), ("strconv.ErrRange", laid_strconv_ErrRange), ("strconv.ErrSyntax", laid_strconv_ErrSyntax)] }
def ProgressiveTwoSaid : Prop := progressiveTwoRow.holds Tryz.pinned (OpenSpec.ofChange progressiveTwoSpec)

/-- ITS FALSE NEIGHBOUR: 'it returns false'. Refute it at one input. -/
def progressiveTwoWrong : ChangeSpec := { name := "progressiveTwo", fn := fun _ => fun
  | [d1, d2, d3] => { results := [.lit (.bool false)], args := [d1, d2, d3] }
  | _ => none }
def ProgressiveTwoWrongFalsely : Prop := progressiveTwoRow.holds Tryz.pinned (OpenSpec.ofChange progressiveTwoWrong)

/-- 'apographlaw21.ProgressiveExcess': WHATEVER THE INPUT: true; the input reads as it did. -/
def progressiveExcessSpec : ChangeSpec := { name := "progressiveExcess", fn := fun _ => fun
  | [d1, d2, d3] => { results := [.lit (.bool true)], args := [d1, d2, d3] }
  | _ => none }
def progressiveExcessRow : OpenClaim := { program := "ytofikdpbagnjbaagreatdoor", sum := "bf82609df092affdf69e2cda02ea3c4b655a907e63c8fac2886e6d707f787404", func := "apograph/apographlaw21.ProgressiveExcess", spec := "progressiveExcess", inPlace := ["internal/bytealg.IndexByteString"], unfollowed := true, recurses := true, named := ["internal/strconv.uint64pow10", "math/bits.deBruijn32tab", "math/bits.deBruijn64tab", "strconv.ErrSyntax", "strconv.ErrRange"], apart := false, laid := [("math/bits.deBruijn32tab", laid_math_bits_deBruijn32tab), ("math/bits.deBruijn64tab", laid_math_bits_deBruijn64tab), ("internal/strconv.uint64pow10", laid_internal_strconv_uint64pow10), ("strconv.ErrRange", laid_strconv_ErrRange), ("strconv.ErrSyntax", laid_strconv_ErrSyntax)] }
def ProgressiveExcessSaid : Prop := progressiveExcessRow.holds Tryz.pinned (OpenSpec.ofChange progressiveExcessSpec)

/-- ITS FALSE NEIGHBOUR: 'it returns false'. Refute it at one input. -/
def progressiveExcessWrong : ChangeSpec := { name := "progressiveExcess", fn := fun _ => fun
  | [d1, d2, d3] => { results := [.lit (.bool false)], args := [d1, d2, d3] }
  | _ => none }
def ProgressiveExcessWrongFalsely : Prop := progressiveExcessRow.holds Tryz.pinned (OpenSpec.ofChange progressiveExcessWrong)

/-- 'apographlaw21.ProgressiveAdds': WHATEVER THE INPUT: true; the input reads as it did. -/
def progressiveAddsSpec : ChangeSpec := { name := "progressiveAdds", fn := fun _ => fun
  | [d1, d2, d3, d4] => { results := [.lit (.bool true)], args := [d1, d2, d3, d4] }
  | _ => none }
def progressiveAddsRow : OpenClaim := { program := "ytofikdpbagnjbaagreatdoor", sum := "bf82609df092affdf69e2cda02ea3c4b655a907e63c8fac2886e6d707f787404", func := "apograph/apographlaw21.ProgressiveAdds", spec := "progressiveAdds", inPlace := ["internal/bytealg.IndexByteString"], unfollowed := true, recurses := true, named := ["internal/strconv.uint64pow10", "math/bits.deBruijn32tab", "math/bits.deBruijn64tab", "strconv.ErrSyntax", "strconv.ErrRange"], apart := false, laid := [("math/bits.deBruijn32tab", laid_math_bits_deBruijn32tab), ("math/bits.deBruijn64tab", laid_math_bits_deBruijn64tab), ("internal/strconv.uint64pow10", laid_internal_strconv_uint64pow10), ("strconv.ErrRange", laid_strconv_ErrRange), ("strconv.ErrSyntax", laid_strconv_ErrSyntax)] }
def ProgressiveAddsSaid : Prop := progressiveAddsRow.holds Tryz.pinned (OpenSpec.ofChange progressiveAddsSpec)

/-- ITS FALSE NEIGHBOUR: 'it returns false'. Refute it at one input. -/
def progressiveAddsWrong : ChangeSpec := { name := "progressiveAdds", fn := fun _ => fun
  | [d1, d2, d3, d4] => { results := [.lit (.bool false)], args := [d1, d2, d3, d4] }
  | _ => none }
def ProgressiveAddsWrongFalsely : Prop := progressiveAddsRow.holds Tryz.pinned (OpenSpec.ofChange progressiveAddsWrong)

/-- 'apographlaw21.ProgressiveRefines': WHATEVER THE INPUT: true; the input reads as it did. -/
def progressiveRefinesSpec : ChangeSpec := { name := "progressiveRefines", fn := fun _ => fun
  | [d1, d2, d3, d4] => { results := [.lit (.bool true)], args := [d1, d2, d3, d4] }
  | _ => none }
def progressiveRefinesRow : OpenClaim := { program := "ytofikdpbagnjbaagreatdoor", sum := "bf82609df092affdf69e2cda02ea3c4b655a907e63c8fac2886e6d707f787404", func := "apograph/apographlaw21.ProgressiveRefines", spec := "progressiveRefines", inPlace := ["internal/bytealg.IndexByteString"], unfollowed := true, recurses := true, named := ["internal/strconv.uint64pow10", "math/bits.deBruijn32tab", "math/bits.deBruijn64tab", "strconv.ErrSyntax", "strconv.ErrRange"], apart := false, laid := [("math/bits.deBruijn32tab", laid_math_bits_deBruijn32tab), ("math/bits.deBruijn64tab", laid_math_bits_deBruijn64tab), ("internal/strconv.uint64pow10", laid_internal_strconv_uint64pow10), ("strconv.ErrRange", laid_strconv_ErrRange), ("strconv.ErrSyntax", laid_strconv_ErrSyntax)] }
def ProgressiveRefinesSaid : Prop := progressiveRefinesRow.holds Tryz.pinned (OpenSpec.ofChange progressiveRefinesSpec)

/-- ITS FALSE NEIGHBOUR: 'it returns false'. Refute it at one input. -/
def progressiveRefinesWrong : ChangeSpec := { name := "progressiveRefines", fn := fun _ => fun
  | [d1, d2, d3, d4] => { results := [.lit (.bool false)], args := [d1, d2, d3, d4] }
  | _ => none }
def ProgressiveRefinesWrongFalsely : Prop := progressiveRefinesRow.holds Tryz.pinned (OpenSpec.ofChange progressiveRefinesWrong)

/-- 'apographlaw21.ProgressiveChanges': WHATEVER THE INPUT: true; the input reads as it did. -/
def progressiveChangesSpec : ChangeSpec := { name := "progressiveChanges", fn := fun _ => fun
  | [d1, d2, d3, d4, d5, d6] => { results := [.lit (.bool true)], args := [d1, d2, d3, d4, d5, d6] }
  | _ => none }
def progressiveChangesRow : OpenClaim := { program := "ytofikdpbagnjbaagreatdoor", sum := "bf82609df092affdf69e2cda02ea3c4b655a907e63c8fac2886e6d707f787404", func := "apograph/apographlaw21.ProgressiveChanges", spec := "progressiveChanges", inPlace := ["internal/bytealg.IndexByteString"], unfollowed := true, recurses := true, named := ["strconv.ErrSyntax", "strconv.ErrRange", "internal/strconv.uint64pow10", "math/bits.deBruijn32tab", "math/bits.deBruijn64tab"], apart := false, laid := [("math/bits.deBruijn32tab", laid_math_bits_deBruijn32tab), ("math/bits.deBruijn64tab", laid_math_bits_deBruijn64tab), ("internal/strconv.uint64pow10", laid_internal_strconv_uint64pow10), ("strconv.ErrRange", laid_strconv_ErrRange), ("strconv.ErrSyntax", laid_strconv_ErrSyntax)] }
def ProgressiveChangesSaid : Prop := progressiveChangesRow.holds Tryz.pinned (OpenSpec.ofChange progressiveChangesSpec)

/-- ITS FALSE NEIGHBOUR: 'it returns false'. Refute it at one input. -/
def progressiveChangesWrong : ChangeSpec := { name := "progressiveChanges", fn := fun _ => fun
  | [d1, d2, d3, d4, d5, d6] => { results := [.lit (.bool false)], args := [d1, d2, d3, d4, d5, d6] }
  | _ => none }
def ProgressiveChangesWrongFalsely : Prop := progressiveChangesRow.holds Tryz.pinned (OpenSpec.ofChange progressiveChangesWrong)

/-- 'apographlaw21.ProgressiveOrder': WHATEVER THE INPUT: true; the input reads as it did. -/
def progressiveOrderSpec : ChangeSpec := { name := "progressiveOrder", fn := fun _ => fun
  | [d1, d2] => { results := [.lit (.bool true)], args := [d1, d2] }
  | _ => none }
def progressiveOrderRow : OpenClaim := { program := "ytofikdpbagnjbaagreatdoor", sum := "bf82609df092affdf69e2cda02ea3c4b655a907e63c8fac2886e6d707f787404", func := "apograph/apographlaw21.ProgressiveOrder", spec := "progressiveOrder", inPlace := ["internal/bytealg.IndexByteString"], unfollowed := true, recurses := true, named := ["internal/strconv.uint64pow10", "math/bits.deBruijn32tab", "math/bits.deBruijn64tab", "strconv.ErrSyntax", "strconv.ErrRange"], apart := false, laid := [("math/bits.deBruijn32tab", laid_math_bits_deBruijn32tab), ("math/bits.deBruijn64tab", laid_math_bits_deBruijn64tab), ("internal/strconv.uint64pow10", laid_internal_strconv_uint64pow10), ("strconv.ErrRange", laid_strconv_ErrRange), ("strconv.ErrSyntax", laid_strconv_ErrSyntax)] }
def ProgressiveOrderSaid : Prop := progressiveOrderRow.holds Tryz.pinned (OpenSpec.ofChange progressiveOrderSpec)

/-- ITS FALSE NEIGHBOUR: 'it returns false'. Refute it at one input. -/
def progressiveOrderWrong : ChangeSpec := { name := "progressiveOrder", fn := fun _ => fun
  | [d1, d2] => { results := [.lit (.bool false)], args := [d1, d2] }
  | _ => none }
def ProgressiveOrderWrongFalsely : Prop := progressiveOrderRow.holds Tryz.pinned (OpenSpec.ofChange progressiveOrderWrong)

/-- 'apographlaw19.MultiwayAligns': WHATEVER THE INPUT: true; the input reads as it did. -/
def multiwayAlignsSpec : ChangeSpec := { name := "multiwayAligns", fn := fun _ => fun
  | [d1, d2] => { results := [.lit (.bool true)], args := [d1, d2] }
  | _ => none }
def multiwayAlignsRow : OpenClaim := { program := "ytofikdpbagnjbaagreatdoor", sum := "bf82609df092affdf69e2cda02ea3c4b655a907e63c8fac2886e6d707f787404", func := "apograph/apographlaw19.MultiwayAligns", spec := "multiwayAligns", inPlace := ["internal/bytealg.IndexByteString"], unfollowed := true, recurses := true, named := ["strconv.ErrSyntax", "strconv.ErrRange", "internal/strconv.uint64pow10", "math/bits.deBruijn32tab", "math/bits.deBruijn64tab"], apart := false, laid := [("math/bits.deBruijn32tab", laid_math_bits_deBruijn32tab), ("math/bits.deBruijn64tab", laid_math_bits_deBruijn64tab), ("internal/strconv.uint64pow10", laid_internal_strconv_uint64pow10), ("strconv.ErrRange", laid_strconv_ErrRange), ("strconv.ErrSyntax", laid_strconv_ErrSyntax)] }
def MultiwayAlignsSaid : Prop := multiwayAlignsRow.holds Tryz.pinned (OpenSpec.ofChange multiwayAlignsSpec)

/-- ITS FALSE NEIGHBOUR: 'it returns false'. Refute it at one input. -/
def multiwayAlignsWrong : ChangeSpec := { name := "multiwayAligns", fn := fun _ => fun
  | [d1, d2] => { results := [.lit (.bool false)], args := [d1, d2] }
  | _ => none }
def MultiwayAlignsWrongFalsely : Prop := multiwayAlignsRow.holds Tryz.pinned (OpenSpec.ofChange multiwayAlignsWrong)

/-- 'apographlaw19.MultiwayMoves': WHATEVER THE INPUT: true; the input reads as it did. -/
def multiwayMovesSpec : ChangeSpec := { name := "multiwayMoves", fn := fun _ => fun
  | [d] => { results := [.lit (.bool true)], args := [d] }
  | _ => none }
def multiwayMovesRow : OpenClaim := { program := "ytofikdpbagnjbaagreatdoor", sum := "bf82609df092affdf69e2cda02ea3c4b655a907e63c8fac2886e6d707f787404", func := "apograph/apographlaw19.MultiwayMoves", spec := "multiwayMoves", inPlace := ["internal/bytealg.IndexByteString"], unfollowed := true, recurses := true, named := ["strconv.ErrSyntax", "strconv.ErrRange", "internal/strconv.uint64pow10", "math/bits.deBruijn32tab", "math/bits.deBruijn64tab"], apart := false, laid := [("math/bits.deBruijn32tab", laid_math_bits_deBruijn32tab), ("math/bits.deBruijn64tab", laid_math_bits_deBruijn64tab), ("internal/strconv.uint64pow10", laid_internal_strconv_uint64pow10), ("strconv.ErrRange", laid_strconv_ErrRange), ("strconv.ErrSyntax", laid_strconv_ErrSyntax)] }
def MultiwayMovesSaid : Prop := multiwayMovesRow.holds Tryz.pinned (OpenSpec.ofChange multiwayMovesSpec)

/-- ITS FALSE NEIGHBOUR: 'it returns false'. Refute it at one input. -/
def multiwayMovesWrong : ChangeSpec := { name := "multiwayMoves", fn := fun _ => fun
  | [d] => { results := [.lit (.bool false)], args := [d] }
  | _ => none }
def MultiwayMovesWrongFalsely : Prop := multiwayMovesRow.holds Tryz.pinned (OpenSpec.ofChange multiwayMovesWrong)

/-- 'apographlaw19.MultiwaySymmetry': WHATEVER THE INPUT: true; the input reads as it did. -/
def multiwaySymmetrySpec : ChangeSpec := { name := "multiwaySymmetry", fn := fun _ => fun
  | [d1, d2] => { results := [.lit (.bool true)], args := [d1, d2] }
  | _ => none }
def multiwaySymmetryRow : OpenClaim := { program := "ytofikdpbagnjbaagreatdoor", sum := "bf82609df092affdf69e2cda02ea3c4b655a907e63c8fac2886e6d707f787404", func := "apograph/apographlaw19.MultiwaySymmetry", spec := "multiwaySymmetry", inPlace := ["internal/bytealg.IndexByteString"], unfollowed := true, recurses := true, named := ["strconv.ErrSyntax", "strconv.ErrRange", "internal/strconv.uint64pow10", "math/bits.deBruijn32tab", "math/bits.deBruijn64tab"], apart := false, laid := [("math/bits.deBruijn32tab", laid_math_bits_deBruijn32tab), ("math/bits.deBruijn64tab", laid_math_bits_deBruijn64tab), ("internal/strconv.uint64pow10", laid_internal_strconv_uint64pow10), ("strconv.ErrRange", laid_strconv_ErrRange), ("strconv.ErrSyntax", laid_strconv_ErrSyntax)] }
def MultiwaySymmetrySaid : Prop := multiwaySymmetryRow.holds Tryz.pinned (OpenSpec.ofChange multiwaySymmetrySpec)

/-- ITS FALSE NEIGHBOUR: 'it returns false'. Refute it at one input. -/
def multiwaySymmetryWrong : ChangeSpec := { name := "multiwaySymmetry", fn := fun _ => fun
  | [d1, d2] => { results := [.lit (.bool false)], args := [d1, d2] }
  | _ => none }
def MultiwaySymmetryWrongFalsely : Prop := multiwaySymmetryRow.holds Tryz.pinned (OpenSpec.ofChange multiwaySymmetryWrong)

/-- 'apographlaw19.MultiwayValid': WHATEVER THE INPUT: true; the input reads as it did. -/
def multiwayValidSpec : ChangeSpec := { name := "multiwayValid", fn := fun _ => fun
  | [d1, d2] => { results := [.lit (.bool true)], args := [d1, d2] }
  | _ => none }
def multiwayValidRow : OpenClaim := { program := "ytofikdpbagnjbaagreatdoor", sum := "bf82609df092affdf69e2cda02ea3c4b655a907e63c8fac2886e6d707f787404", func := "apograph/apographlaw19.MultiwayValid", spec := "multiwayValid", inPlace := ["internal/bytealg.IndexByteString"], unfollowed := true, recurses := true, named := ["strconv.ErrSyntax", "strconv.ErrRange", "internal/strconv.uint64pow10", "math/bits.deBruijn32tab", "math/bits.deBruijn64tab"], apart := false, laid := [("math/bits.deBruijn32tab", laid_math_bits_deBruijn32tab), ("math/bits.deBruijn64tab", laid_math_bits_deBruijn64tab), ("internal/strconv.uint64pow10", laid_internal_strconv_uint64pow10), ("strconv.ErrRange", laid_strconv_ErrRange), ("strconv.ErrSyntax", laid_strconv_ErrSyntax)] }
def MultiwayValidSaid : Prop := multiwayValidRow.holds Tryz.pinned (OpenSpec.ofChange multiwayValidSpec)

/-- ITS FALSE NEIGHBOUR: 'it returns false'. Refute it at one input. -/
def multiwayValidWrong : ChangeSpec := { name := "multiwayValid", fn := fun _ => fun
  | [d1, d2] => { results := [.lit (.bool false)], args := [d1, d2] }
  | _ => none }
def MultiwayValidWrongFalsely : Prop := multiwayValidRow.holds Tryz.pinned (OpenSpec.ofChange multiwayValidWrong)

/-- 'apographlaw19.MultiwayBest': WHATEVER THE INPUT: true; the input reads as it did. -/
def multiwayBestSpec : ChangeSpec := { name := "multiwayBest", fn := fun _ => fun
  | [d1, d2, d3] => { results := [.lit (.bool true)], args := [d1, d2, d3] }
  | _ => none }
def multiwayBestRow : OpenClaim := { program := "ytofikdpbagnjbaagreatdoor", sum := "bf82609df092affdf69e2cda02ea3c4b655a907e63c8fac2886e6d707f787404", func := "apograph/apographlaw19.MultiwayBest", spec := "multiwayBest", inPlace := ["internal/bytealg.IndexByteString"], unfollowed := true, recurses := true, named := ["strconv.ErrSyntax", "strconv.ErrRange", "internal/strconv.uint64pow10", "math/bits.deBruijn32tab", "math/bits.deBruijn64tab"], apart := false, laid := [("math/bits.deBruijn32tab", laid_math_bits_deBruijn32tab), ("math/bits.deBruijn64tab", laid_math_bits_deBruijn64tab), ("internal/strconv.uint64pow10", laid_internal_strconv_uint64pow10), ("strconv.ErrRange", laid_strconv_ErrRange), ("strconv.ErrSyntax", laid_strconv_ErrSyntax)] }
def MultiwayBestSaid : Prop := multiwayBestRow.holds Tryz.pinned (OpenSpec.ofChange multiwayBestSpec)

/-- ITS FALSE NEIGHBOUR: 'it returns false'. Refute it at one input. -/
def multiwayBestWrong : ChangeSpec := { name := "multiwayBest", fn := fun _ => fun
  | [d1, d2, d3] => { results := [.lit (.bool false)], args := [d1, d2, d3] }
  | _ => none }
def MultiwayBestWrongFalsely : Prop := multiwayBestRow.holds Tryz.pinned (OpenSpec.ofChange multiwayBestWrong)

/-- 'apographlaw19.MultiwayProjects': WHATEVER THE INPUT: true; the input reads as it did. -/
def multiwayProjectsSpec : ChangeSpec := { name := "multiwayProjects", fn := fun _ => fun
  | [d1, d2, d3] => { results := [.lit (.bool true)], args := [d1, d2, d3] }
  | _ => none }
def multiwayProjectsRow : OpenClaim := { program := "ytofikdpbagnjbaagreatdoor", sum := "bf82609df092affdf69e2cda02ea3c4b655a907e63c8fac2886e6d707f787404", func := "apograph/apographlaw19.MultiwayProjects", spec := "multiwayProjects", inPlace := ["internal/bytealg.IndexByteString"], unfollowed := true, recurses := true, named := ["strconv.ErrSyntax", "strconv.ErrRange", "internal/strconv.uint64pow10", "math/bits.deBruijn32tab", "math/bits.deBruijn64tab"], apart := false, laid := [("math/bits.deBruijn32tab", laid_math_bits_deBruijn32tab), ("math/bits.deBruijn64tab", laid_math_bits_deBruijn64tab), ("internal/strconv.uint64pow10", laid_internal_strconv_uint64pow10), ("strconv.ErrRange", laid_strconv_ErrRange), ("strconv.ErrSyntax", laid_strconv_ErrSyntax)] }
def MultiwayProjectsSaid : Prop := multiwayProjectsRow.holds Tryz.pinned (OpenSpec.ofChange multiwayProjectsSpec)

/-- ITS FALSE NEIGHBOUR: 'it returns false'. Refute it at one input. -/
def multiwayProjectsWrong : ChangeSpec := { name := "multiwayProjects", fn := fun _ => fun
  | [d1, d2, d3] => { results := [.lit (.bool false)], args := [d1, d2, d3] }
  | _ => none }
def MultiwayProjectsWrongFalsely : Prop := multiwayProjectsRow.holds Tryz.pinned (OpenSpec.ofChange multiwayProjectsWrong)

/-- 'apographlaw19.MultiwayChecks': WHATEVER THE INPUT: true; the input reads as it did. -/
def multiwayChecksSpec : ChangeSpec := { name := "multiwayChecks", fn := fun _ => fun
  | [d1, d2, d3, d4] => { results := [.lit (.bool true)], args := [d1, d2, d3, d4] }
  | _ => none }
def multiwayChecksRow : OpenClaim := { program := "ytofikdpbagnjbaagreatdoor", sum := "bf82609df092affdf69e2cda02ea3c4b655a907e63c8fac2886e6d707f787404", func := "apograph/apographlaw19.MultiwayChecks", spec := "multiwayChecks", inPlace := ["internal/bytealg.IndexByteString"], unfollowed := true, recurses := true, named := ["strconv.ErrSyntax", "strconv.ErrRange", "internal/strconv.uint64pow10", "math/bits.deBruijn32tab", "math/bits.deBruijn64tab"], apart := false, laid := [("math/bits.deBruijn32tab", laid_math_bits_deBruijn32tab), ("math/bits.deBruijn64tab", laid_math_bits_deBruijn64tab), ("internal/strconv.uint64pow10", laid_internal_strconv_uint64pow10), ("strconv.ErrRange", laid_strconv_ErrRange), ("strconv.ErrSyntax", laid_strconv_ErrSyntax)] }
def MultiwayChecksSaid : Prop := multiwayChecksRow.holds Tryz.pinned (OpenSpec.ofChange multiwayChecksSpec)

/-- ITS FALSE NEIGHBOUR: 'it returns false'. Refute it at one input. -/
def multiwayChecksWrong : ChangeSpec := { name := "multiwayChecks", fn := fun _ => fun
  | [d1, d2, d3, d4] => { results := [.lit (.bool false)], args := [d1, d2, d3, d4] }
  | _ => none }
def MultiwayChecksWrongFalsely : Prop := multiwayChecksRow.holds Tryz.pinned (OpenSpec.ofChange multiwayChecksWrong)

/-- 'apographlaw19.MultiwayTwo': WHATEVER THE INPUT: true; the input reads as it did. -/
def multiwayTwoSpec : ChangeSpec := { name := "multiwayTwo", fn := fun _ => fun
  | [d1, d2, d3] => { results := [.lit (.bool true)], args := [d1, d2, d3] }
  | _ => none }
def multiwayTwoRow : OpenClaim := { program := "ytofikdpbagnjbaagreatdoor", sum := "bf82609df092affdf69e2cda02ea3c4b655a907e63c8fac2886e6d707f787404", func := "apograph/apographlaw19.MultiwayTwo", spec := "multiwayTwo", inPlace := ["internal/bytealg.IndexByteString"], unfollowed := true, recurses := true, named := ["strconv.ErrSyntax", "strconv.ErrRange", "internal/strconv.uint64pow10", "math/bits.deBruijn32tab", "math/bits.deBruijn64tab"], apart := false, laid := [("math/bits.deBruijn32tab", laid_math_bits_deBruijn32tab), ("math/bits.deBruijn64tab", laid_math_bits_deBruijn64tab), ("internal/strconv.uint64pow10", laid_internal_strconv_uint64pow10), ("strconv.ErrRange", laid_strconv_ErrRange), ("strconv.ErrSyntax", laid_strconv_ErrSyntax)] }
def MultiwayTwoSaid : Prop := multiwayTwoRow.holds Tryz.pinned (OpenSpec.ofChange multiwayTwoSpec)

/-- ITS FALSE NEIGHBOUR: 'it returns false'. Refute it at one input. -/
def multiwayTwoWrong : ChangeSpec := { name := "multiwayTwo", fn := fun _ => fun
  | [d1, d2, d3] => { results := [.lit (.bool false)], args := [d1, d2, d3] }
  | _ => none }
def MultiwayTwoWrongFalsely : Prop := multiwayTwoRow.holds Tryz.pinned (OpenSpec.ofChange multiwayTwoWrong)

/-- 'apographlaw19.MultiwayCosts': WHATEVER THE INPUT: true; the input reads as it did. -/
def multiwayCostsSpec : ChangeSpec := { name := "multiwayCosts", fn := fun _ => fun
  | [d1, d2, d3] => { results := [.lit (.bool true)], args := [d1, d2, d3] }
  | _ => none }
def multiwayCostsRow : OpenClaim := { program := "ytofikdpbagnjbaagreatdoor", sum := "bf82609df092affdf69e2cda02ea3c4b655a907e63c8fac2886e6d707f787404", func := "apograph/apographlaw19.MultiwayCosts", spec := "multiwayCosts", inPlace := ["internal/bytealg.IndexByteString"], unfollowed := true, recurses := true, named := ["strconv.ErrSyntax", "strconv.ErrRange", "internal/strconv.uint64pow10", "math/bits.deBruijn32tab", "math/bits.deBruijn64tab"], apart := false, laid := [("math/bits.deBruijn32tab", laid_math_bits_deBruijn32tab), ("math/bits.deBruijn64tab", laid_math_bits_deBruijn64tab), ("internal/strconv.uint64pow10", laid_internal_strconv_uint64pow10), ("strconv.ErrRange", laid_strconv_ErrRange), ("strconv.ErrSyntax", laid_strconv_ErrSyntax)] }
def MultiwayCostsSaid : Prop := multiwayCostsRow.holds Tryz.pinned (OpenSpec.ofChange multiwayCostsSpec)

/-- ITS FALSE NEIGHBOUR: 'it returns false'. Refute it at one input. -/
def multiwayCostsWrong : ChangeSpec := { name := "multiwayCosts", fn := fun _ => fun
  | [d1, d2, d3] => { results := [.lit (.bool false)], args := [d1, d2, d3] }
  | _ => none }
def MultiwayCostsWrongFalsely : Prop := multiwayCostsRow.holds Tryz.pinned (OpenSpec.ofChange multiwayCostsWrong)

/-- 'apographlaw19.MultiwayBound': WHATEVER THE INPUT: true; the input reads as it did. -/
def multiwayBoundSpec : ChangeSpec := { name := "multiwayBound", fn := fun _ => fun
  | [d1, d2, d3] => { results := [.lit (.bool true)], args := [d1, d2, d3] }
  | _ => none }
def multiwayBoundRow : OpenClaim := { program := "ytofikdpbagnjbaagreatdoor", sum := "bf82609df092affdf69e2cda02ea3c4b655a907e63c8fac2886e6d707f787404", func := "apograph/apographlaw19.MultiwayBound", spec := "multiwayBound", inPlace := ["internal/bytealg.IndexByteString"], unfollowed := true, recurses := true, named := ["strconv.ErrSyntax", "strconv.ErrRange", "internal/strconv.uint64pow10", "math/bits.deBruijn32tab", "math/bits.deBruijn64tab"], apart := false, laid := [("math/bits.deBruijn32tab", laid_math_bits_deBruijn32tab), ("math/bits.deBruijn64tab", laid_math_bits_deBruijn64tab), ("internal/strconv.uint64pow10", laid_internal_strconv_uint64pow10), ("strconv.ErrRange", laid_strconv_ErrRange), ("strconv.ErrSyntax", laid_strconv_ErrSyntax)] }
def MultiwayBoundSaid : Prop := multiwayBoundRow.holds Tryz.pinned (OpenSpec.ofChange multiwayBoundSpec)

/-- ITS FALSE NEIGHBOUR: 'it returns false'. Refute it at one input. -/
def multiwayBoundWrong : ChangeSpec := { name := "multiwayBound", fn := fun _ => fun
  | [d1, d2, d3] => { results := [.lit (.bool false)], args := [d1, d2, d3] }
  | _ => none }
def MultiwayBoundWrongFalsely : Prop := multiwayBoundRow.holds Tryz.pinned (OpenSpec.ofChange multiwayBoundWrong)

/- THE SECOND FORM. 'bulk': how many values and letters a reading holds, each counted each time it is reached (what is shared counts as often as it is met; a slice's spare places count too). A statement '..UptoSaid' is the law's where the arguments, and the package variables that the reading takes, are together of bulk at most 1048576: NARROWER than '..Said'. Prove '..Said' where nothing that the law and all that it calls make is longer than what came in: it says more and counts as full. Else prove '..UptoSaid'. A law counts once. -/
mutual
def uptoBulk {H : Type} : DataW H → Nat
  | .lit (.string bytes) => bytes.length + 1
  | .lit _ => 1
  | .nil => 1
  | .ptr d => uptoBulk d + 1
  | .slice elems spare => uptoBulkAll elems + uptoBulkAll spare + 1
  | .agg parts => uptoBulkAll parts + 1
  | .iface _ d => uptoBulk d + 1
  | .map entries => uptoBulkEntries entries + 1
  | .held _ => 1
def uptoBulkAll {H : Type} : List (DataW H) → Nat
  | [] => 0
  | d :: r => uptoBulk d + uptoBulkAll r
def uptoBulkEntries {H : Type} : List (Lit × DataW H) → Nat
  | [] => 0
  | x :: r => uptoBulkEntry x + uptoBulkEntries r
def uptoBulkEntry {H : Type} : Lit × DataW H → Nat
  | (.string bytes, d) => bytes.length + uptoBulk d + 1
  | (_, d) => uptoBulk d + 1
 end
def uptoSmall : (H : Type) → List (DataW H) → Bool := fun _ ds => decide (uptoBulkAll ds ≤ 1048576)
def OpenSpec.upto (s : _root_.Go.ChangeSpec) : _root_.Go.OpenSpec := { _root_.Go.OpenSpec.ofChange s with cond := some uptoSmall }

/-- 'apographlaw21.ProgressiveAligns', WHERE WHAT IT READS IS OF BULK AT MOST 1048576: true; the input reads as it did. -/
def progressiveAlignsUptoRow : OpenClaim := { program := "ytofikdpbagnjbaagreatdoor", sum := "bf82609df092affdf69e2cda02ea3c4b655a907e63c8fac2886e6d707f787404", func := "apograph/apographlaw21.ProgressiveAligns", spec := "progressiveAligns", inPlace := ["internal/bytealg.IndexByteString"], unfollowed := true, recurses := true, named := ["strconv.ErrSyntax", "strconv.ErrRange", "internal/strconv.uint64pow10", "math/bits.deBruijn32tab", "math/bits.deBruijn64tab"], apart := false, laid := [("math/bits.deBruijn32tab", laid_math_bits_deBruijn32tab), ("math/bits.deBruijn64tab", laid_math_bits_deBruijn64tab), ("internal/strconv.uint64pow10", laid_internal_strconv_uint64pow10), ("strconv.ErrRange", laid_strconv_ErrRange), ("strconv.ErrSyntax", laid_strconv_ErrSyntax)], narrowed := true }
def ProgressiveAlignsUptoSaid : Prop := progressiveAlignsUptoRow.holds Tryz.pinned (OpenSpec.upto progressiveAlignsSpec)

/-- 'apographlaw21.ProgressiveValid', WHERE WHAT IT READS IS OF BULK AT MOST 1048576: true; the input reads as it did. -/
def progressiveValidUptoRow : OpenClaim := { program := "ytofikdpbagnjbaagreatdoor", sum := "bf82609df092affdf69e2cda02ea3c4b655a907e63c8fac2886e6d707f787404", func := "apograph/apographlaw21.ProgressiveValid", spec := "progressiveValid", inPlace := ["internal/bytealg.IndexByteString"], unfollowed := true, recurses := true, named := ["internal/strconv.uint64pow10", "math/bits.deBruijn32tab", "math/bits.deBruijn64tab", "strconv.ErrSyntax", "strconv.ErrRange"], apart := false, laid := [("math/bits.deBruijn32tab", laid_math_bits_deBruijn32tab), ("math/bits.deBruijn64tab", laid_math_bits_deBruijn64tab), ("internal/strconv.uint64pow10", laid_internal_strconv_uint64pow10), ("strconv.ErrRange", laid_strconv_ErrRange), ("strconv.ErrSyntax", laid_strconv_ErrSyntax)], narrowed := true }
def ProgressiveValidUptoSaid : Prop := progressiveValidUptoRow.holds Tryz.pinned (OpenSpec.upto progressiveValidSpec)

/-- 'apographlaw21.ProgressiveTwo', WHERE WHAT IT READS IS OF BULK AT MOST 1048576: true; the input reads as it did. -/
def progressiveTwoUptoRow : OpenClaim := { program := "ytofikdpbagnjbaagreatdoor", sum := "bf82609df092affdf69e2cda02ea3c4b655a907e63c8fac2886e6d707f787404", func := "apograph/apographlaw21.ProgressiveTwo", spec := "progressiveTwo", inPlace := ["internal/bytealg.IndexByteString"], unfollowed := true, recurses := true, named := ["internal/strconv.uint64pow10", "math/bits.deBruijn32tab", "math/bits.deBruijn64tab", "strconv.ErrSyntax", "strconv.ErrRange"], apart := false, laid := [("math/bits.deBruijn32tab", laid_math_bits_deBruijn32tab), ("math/bits.deBruijn64tab", laid_math_bits_deBruijn64tab), ("internal/strconv.uint64pow10", laid_internal_strconv_uint64pow10), ("strconv.ErrRange", laid_strconv_ErrRange), ("strconv.ErrSyntax", laid_strconv_ErrSyntax)], narrowed := true }
def ProgressiveTwoUptoSaid : Prop := progressiveTwoUptoRow.holds Tryz.pinned (OpenSpec.upto progressiveTwoSpec)

/-- 'apographlaw21.ProgressiveExcess', WHERE WHAT IT READS IS OF BULK AT MOST 1048576: true; the input reads as it did. -/
def progressiveExcessUptoRow : OpenClaim := { program := "ytofikdpbagnjbaagreatdoor", sum := "bf82609df092affdf69e2cda02ea3c4b655a907e63c8fac2886e6d707f787404", func := "apograph/apographlaw21.ProgressiveExcess", spec := "progressiveExcess", inPlace := ["internal/bytealg.IndexByteString"], unfollowed := true, recurses := true, named := ["internal/strconv.uint64pow10", "math/bits.deBruijn32tab", "math/bits.deBruijn64tab", "strconv.ErrSyntax", "strconv.ErrRange"], apart := false, laid := [("math/bits.deBruijn32tab", laid_math_bits_deBruijn32tab), ("math/bits.deBruijn64tab", laid_math_bits_deBruijn64tab), ("internal/strconv.uint64pow10", laid_internal_strconv_uint64pow10), ("strconv.ErrRange", laid_strconv_ErrRange), ("strconv.ErrSyntax", laid_strconv_ErrSyntax)], narrowed := true }
def ProgressiveExcessUptoSaid : Prop := progressiveExcessUptoRow.holds Tryz.pinned (OpenSpec.upto progressiveExcessSpec)

/-- 'apographlaw21.ProgressiveAdds', WHERE WHAT IT READS IS OF BULK AT MOST 1048576: true; the input reads as it did. -/
def progressiveAddsUptoRow : OpenClaim := { program := "ytofikdpbagnjbaagreatdoor", sum := "bf82609df092affdf69e2cda02ea3c4b655a907e63c8fac2886e6d707f787404", func := "apograph/apographlaw21.ProgressiveAdds", spec := "progressiveAdds", inPlace := ["internal/bytealg.IndexByteString"], unfollowed := true, recurses := true, named := ["internal/strconv.uint64pow10", "math/bits.deBruijn32tab", "math/bits.deBruijn64tab", "strconv.ErrSyntax", "strconv.ErrRange"], apart := false, laid := [("math/bits.deBruijn32tab", laid_math_bits_deBruijn32tab), ("math/bits.deBruijn64tab", laid_math_bits_deBruijn64tab), ("internal/strconv.uint64pow10", laid_internal_strconv_uint64pow10), ("strconv.ErrRange", laid_strconv_ErrRange), ("strconv.ErrSyntax", laid_strconv_ErrSyntax)], narrowed := true }
def ProgressiveAddsUptoSaid : Prop := progressiveAddsUptoRow.holds Tryz.pinned (OpenSpec.upto progressiveAddsSpec)

/-- 'apographlaw21.ProgressiveRefines', WHERE WHAT IT READS IS OF BULK AT MOST 1048576: true; the input reads as it did. -/
def progressiveRefinesUptoRow : OpenClaim := { program := "ytofikdpbagnjbaagreatdoor", sum := "bf82609df092affdf69e2cda02ea3c4b655a907e63c8fac2886e6d707f787404", func := "apograph/apographlaw21.ProgressiveRefines", spec := "progressiveRefines", inPlace := ["internal/bytealg.IndexByteString"], unfollowed := true, recurses := true, named := ["internal/strconv.uint64pow10", "math/bits.deBruijn32tab", "math/bits.deBruijn64tab", "strconv.ErrSyntax", "strconv.ErrRange"], apart := false, laid := [("math/bits.deBruijn32tab", laid_math_bits_deBruijn32tab), ("math/bits.deBruijn64tab", laid_math_bits_deBruijn64tab), ("internal/strconv.uint64pow10", laid_internal_strconv_uint64pow10), ("strconv.ErrRange", laid_strconv_ErrRange), ("strconv.ErrSyntax", laid_strconv_ErrSyntax)], narrowed := true }
def ProgressiveRefinesUptoSaid : Prop := progressiveRefinesUptoRow.holds Tryz.pinned (OpenSpec.upto progressiveRefinesSpec)

/-- 'apographlaw21.ProgressiveChanges', WHERE WHAT IT READS IS OF BULK AT MOST 1048576: true; the input reads as it did. -/
def progressiveChangesUptoRow : OpenClaim := { program := "ytofikdpbagnjbaagreatdoor", sum := "bf82609df092affdf69e2cda02ea3c4b655a907e63c8fac2886e6d707f787404", func := "apograph/apographlaw21.ProgressiveChanges", spec := "progressiveChanges", inPlace := ["internal/bytealg.IndexByteString"], unfollowed := true, recurses := true, named := ["strconv.ErrSyntax", "strconv.ErrRange", "internal/strconv.uint64pow10", "math/bits.deBruijn32tab", "math/bits.deBruijn64tab"], apart := false, laid := [("math/bits.deBruijn32tab", laid_math_bits_deBruijn32tab), ("math/bits.deBruijn64tab", laid_math_bits_deBruijn64tab), ("internal/strconv.uint64pow10", laid_internal_strconv_uint64pow10), ("strconv.ErrRange", laid_strconv_ErrRange), ("strconv.ErrSyntax", laid_strconv_ErrSyntax)], narrowed := true }
def ProgressiveChangesUptoSaid : Prop := progressiveChangesUptoRow.holds Tryz.pinned (OpenSpec.upto progressiveChangesSpec)

/-- 'apographlaw21.ProgressiveOrder', WHERE WHAT IT READS IS OF BULK AT MOST 1048576: true; the input reads as it did. -/
def progressiveOrderUptoRow : OpenClaim := { program := "ytofikdpbagnjbaagreatdoor", sum := "bf82609df092affdf69e2cda02ea3c4b655a907e63c8fac2886e6d707f787404", func := "apograph/apographlaw21.ProgressiveOrder", spec := "progressiveOrder", inPlace := ["internal/bytealg.IndexByteString"], unfollowed := true, recurses := true, named := ["internal/strconv.uint64pow10", "math/bits.deBruijn32tab", "math/bits.deBruijn64tab", "strconv.ErrSyntax", "strconv.ErrRange"], apart := false, laid := [("math/bits.deBruijn32tab", laid_math_bits_deBruijn32tab), ("math/bits.deBruijn64tab", laid_math_bits_deBruijn64tab), ("internal/strconv.uint64pow10", laid_internal_strconv_uint64pow10), ("strconv.ErrRange", laid_strconv_ErrRange), ("strconv.ErrSyntax", laid_strconv_ErrSyntax)], narrowed := true }
def ProgressiveOrderUptoSaid : Prop := progressiveOrderUptoRow.holds Tryz.pinned (OpenSpec.upto progressiveOrderSpec)

/-- 'apographlaw19.MultiwayAligns', WHERE WHAT IT READS IS OF BULK AT MOST 1048576: true; the input reads as it did. -/
def multiwayAlignsUptoRow : OpenClaim := { program := "ytofikdpbagnjbaagreatdoor", sum := "bf82609df092affdf69e2cda02ea3c4b655a907e63c8fac2886e6d707f787404", func := "apograph/apographlaw19.MultiwayAligns", spec := "multiwayAligns", inPlace := ["internal/bytealg.IndexByteString"], unfollowed := true, recurses := true, named := ["strconv.ErrSyntax", "strconv.ErrRange", "internal/strconv.uint64pow10", "math/bits.deBruijn32tab", "math/bits.deBruijn64tab"], apart := false, laid := [("math/bits.deBruijn32tab", laid_math_bits_deBruijn32tab), ("math/bits.deBruijn64tab", laid_math_bits_deBruijn64tab), ("internal/strconv.uint64pow10", laid_internal_strconv_uint64pow10), ("strconv.ErrRange", laid_strconv_ErrRange), ("strconv.ErrSyntax", laid_strconv_ErrSyntax)], narrowed := true }
def MultiwayAlignsUptoSaid : Prop := multiwayAlignsUptoRow.holds Tryz.pinned (OpenSpec.upto multiwayAlignsSpec)

/-- 'apographlaw19.MultiwayMoves', WHERE WHAT IT READS IS OF BULK AT MOST 1048576: true; the input reads as it did. -/
def multiwayMovesUptoRow : OpenClaim := { program := "ytofikdpbagnjbaagreatdoor", sum := "bf82609df092affdf69e2cda02ea3c4b655a907e63c8fac2886e6d707f787404", func := "apograph/apographlaw19.MultiwayMoves", spec := "multiwayMoves", inPlace := ["internal/bytealg.IndexByteString"], unfollowed := true, recurses := true, named := ["strconv.ErrSyntax", "strconv.ErrRange", "internal/strconv.uint64pow10", "math/bits.deBruijn32tab", "math/bits.deBruijn64tab"], apart := false, laid := [("math/bits.deBruijn32tab", laid_math_bits_deBruijn32tab), ("math/bits.deBruijn64tab", laid_math_bits_deBruijn64tab), ("internal/strconv.uint64pow10", laid_internal_strconv_uint64pow10), ("strconv.ErrRange", laid_strconv_ErrRange), ("strconv.ErrSyntax", laid_strconv_ErrSyntax)], narrowed := true }
def MultiwayMovesUptoSaid : Prop := multiwayMovesUptoRow.holds Tryz.pinned (OpenSpec.upto multiwayMovesSpec)

/-- 'apographlaw19.MultiwaySymmetry', WHERE WHAT IT READS IS OF BULK AT MOST 1048576: true; the input reads as it did. -/
def multiwaySymmetryUptoRow : OpenClaim := { program := "ytofikdpbagnjbaagreatdoor", sum := "bf82609df092affdf69e2cda02ea3c4b655a907e63c8fac2886e6d707f787404", func := "apograph/apographlaw19.MultiwaySymmetry", spec := "multiwaySymmetry", inPlace := ["internal/bytealg.IndexByteString"], unfollowed := true, recurses := true, named := ["strconv.ErrSyntax", "strconv.ErrRange", "internal/strconv.uint64pow10", "math/bits.deBruijn32tab", "math/bits.deBruijn64tab"], apart := false, laid := [("math/bits.deBruijn32tab", laid_math_bits_deBruijn32tab), ("math/bits.deBruijn64tab", laid_math_bits_deBruijn64tab), ("internal/strconv.uint64pow10", laid_internal_strconv_uint64pow10), ("strconv.ErrRange", laid_strconv_ErrRange), ("strconv.ErrSyntax", laid_strconv_ErrSyntax)], narrowed := true }
def MultiwaySymmetryUptoSaid : Prop := multiwaySymmetryUptoRow.holds Tryz.pinned (OpenSpec.upto multiwaySymmetrySpec)

/-- 'apographlaw19.MultiwayValid', WHERE WHAT IT READS IS OF BULK AT MOST 1048576: true; the input reads as it did. -/
def multiwayValidUptoRow : OpenClaim := { program := "ytofikdpbagnjbaagreatdoor", sum := "bf82609df092affdf69e2cda02ea3c4b655a907e63c8fac2886e6d707f787404", func := "apograph/apographlaw19.MultiwayValid", spec := "multiwayValid", inPlace := ["internal/bytealg.IndexByteString"], unfollowed := true, recurses := true, named := ["strconv.ErrSyntax", "strconv.ErrRange", "internal/strconv.uint64pow10", "math/bits.deBruijn32tab", "math/bits.deBruijn64tab"], apart := false, laid := [("math/bits.deBruijn32tab", laid_math_bits_deBruijn32tab), ("math/bits.deBruijn64tab", laid_math_bits_deBruijn64tab), ("internal/strconv.uint64pow10", laid_internal_strconv_uint64pow10), ("strconv.ErrRange", laid_strconv_ErrRange), ("strconv.ErrSyntax", laid_strconv_ErrSyntax)], narrowed := true }
def MultiwayValidUptoSaid : Prop := multiwayValidUptoRow.holds Tryz.pinned (OpenSpec.upto multiwayValidSpec)

/-- 'apographlaw19.MultiwayBest', WHERE WHAT IT READS IS OF BULK AT MOST 1048576: true; the input reads as it did. -/
def multiwayBestUptoRow : OpenClaim := { program := "ytofikdpbagnjbaagreatdoor", sum := "bf82609df092affdf69e2cda02ea3c4b655a907e63c8fac2886e6d707f787404", func := "apograph/apographlaw19.MultiwayBest", spec := "multiwayBest", inPlace := ["internal/bytealg.IndexByteString"], unfollowed := true, recurses := true, named := ["strconv.ErrSyntax", "strconv.ErrRange", "internal/strconv.uint64pow10", "math/bits.deBruijn32tab", "math/bits.deBruijn64tab"], apart := false, laid := [("math/bits.deBruijn32tab", laid_math_bits_deBruijn32tab), ("math/bits.deBruijn64tab", laid_math_bits_deBruijn64tab), ("internal/strconv.uint64pow10", laid_internal_strconv_uint64pow10), ("strconv.ErrRange", laid_strconv_ErrRange), ("strconv.ErrSyntax", laid_strconv_ErrSyntax)], narrowed := true }
def MultiwayBestUptoSaid : Prop := multiwayBestUptoRow.holds Tryz.pinned (OpenSpec.upto multiwayBestSpec)

/-- 'apographlaw19.MultiwayProjects', WHERE WHAT IT READS IS OF BULK AT MOST 1048576: true; the input reads as it did. -/
def multiwayProjectsUptoRow : OpenClaim := { program := "ytofikdpbagnjbaagreatdoor", sum := "bf82609df092affdf69e2cda02ea3c4b655a907e63c8fac2886e6d707f787404", func := "apograph/apographlaw19.MultiwayProjects", spec := "multiwayProjects", inPlace := ["internal/bytealg.IndexByteString"], unfollowed := true, recurses := true, named := ["strconv.ErrSyntax", "strconv.ErrRange", "internal/strconv.uint64pow10", "math/bits.deBruijn32tab", "math/bits.deBruijn64tab"], apart := false, laid := [("math/bits.deBruijn32tab", laid_math_bits_deBruijn32tab), ("math/bits.deBruijn64tab", laid_math_bits_deBruijn64tab), ("internal/strconv.uint64pow10", laid_internal_strconv_uint64pow10), ("strconv.ErrRange", laid_strconv_ErrRange), ("strconv.ErrSyntax", laid_strconv_ErrSyntax)], narrowed := true }
def MultiwayProjectsUptoSaid : Prop := multiwayProjectsUptoRow.holds Tryz.pinned (OpenSpec.upto multiwayProjectsSpec)

/-- 'apographlaw19.MultiwayChecks', WHERE WHAT IT READS IS OF BULK AT MOST 1048576: true; the input reads as it did. -/
def multiwayChecksUptoRow : OpenClaim := { program := "ytofikdpbagnjbaagreatdoor", sum := "bf82609df092affdf69e2cda02ea3c4b655a907e63c8fac2886e6d707f787404", func := "apograph/apographlaw19.MultiwayChecks", spec := "multiwayChecks", inPlace := ["internal/bytealg.IndexByteString"], unfollowed := true, recurses := true, named := ["strconv.ErrSyntax", "strconv.ErrRange", "internal/strconv.uint64pow10", "math/bits.deBruijn32tab", "math/bits.deBruijn64tab"], apart := false, laid := [("math/bits.deBruijn32tab", laid_math_bits_deBruijn32tab), ("math/bits.deBruijn64tab", laid_math_bits_deBruijn64tab), ("internal/strconv.uint64pow10", laid_internal_strconv_uint64pow10), ("strconv.ErrRange", laid_strconv_ErrRange), ("strconv.ErrSyntax", laid_strconv_ErrSyntax)], narrowed := true }
def MultiwayChecksUptoSaid : Prop := multiwayChecksUptoRow.holds Tryz.pinned (OpenSpec.upto multiwayChecksSpec)

/-- 'apographlaw19.MultiwayTwo', WHERE WHAT IT READS IS OF BULK AT MOST 1048576: true; the input reads as it did. -/
def multiwayTwoUptoRow : OpenClaim := { program := "ytofikdpbagnjbaagreatdoor", sum := "bf82609df092affdf69e2cda02ea3c4b655a907e63c8fac2886e6d707f787404", func := "apograph/apographlaw19.MultiwayTwo", spec := "multiwayTwo", inPlace := ["internal/bytealg.IndexByteString"], unfollowed := true, recurses := true, named := ["strconv.ErrSyntax", "strconv.ErrRange", "internal/strconv.uint64pow10", "math/bits.deBruijn32tab", "math/bits.deBruijn64tab"], apart := false, laid := [("math/bits.deBruijn32tab", laid_math_bits_deBruijn32tab), ("math/bits.deBruijn64tab", laid_math_bits_deBruijn64tab), ("internal/strconv.uint64pow10", laid_internal_strconv_uint64pow10), ("strconv.ErrRange", laid_strconv_ErrRange), ("strconv.ErrSyntax", laid_strconv_ErrSyntax)], narrowed := true }
def MultiwayTwoUptoSaid : Prop := multiwayTwoUptoRow.holds Tryz.pinned (OpenSpec.upto multiwayTwoSpec)

/-- 'apographlaw19.MultiwayCosts', WHERE WHAT IT READS IS OF BULK AT MOST 1048576: true; the input reads as it did. -/
def multiwayCostsUptoRow : OpenClaim := { program := "ytofikdpbagnjbaagreatdoor", sum := "bf82609df092affdf69e2cda02ea3c4b655a907e63c8fac2886e6d707f787404", func := "apograph/apographlaw19.MultiwayCosts", spec := "multiwayCosts", inPlace := ["internal/bytealg.IndexByteString"], unfollowed := true, recurses := true, named := ["strconv.ErrSyntax", "strconv.ErrRange", "internal/strconv.uint64pow10", "math/bits.deBruijn32tab", "math/bits.deBruijn64tab"], apart := false, laid := [("math/bits.deBruijn32tab", laid_math_bits_deBruijn32tab), ("math/bits.deBruijn64tab", laid_math_bits_deBruijn64tab), ("internal/strconv.uint64pow10", laid_internal_strconv_uint64pow10), ("strconv.ErrRange", laid_strconv_ErrRange), ("strconv.ErrSyntax", laid_strconv_ErrSyntax)], narrowed := true }
def MultiwayCostsUptoSaid : Prop := multiwayCostsUptoRow.holds Tryz.pinned (OpenSpec.upto multiwayCostsSpec)

/-- 'apographlaw19.MultiwayBound', WHERE WHAT IT READS IS OF BULK AT MOST 1048576: true; the input reads as it did. -/
def multiwayBoundUptoRow : OpenClaim := { program := "ytofikdpbagnjbaagreatdoor", sum := "bf82609df092affdf69e2cda02ea3c4b655a907e63c8fac2886e6d707f787404", func := "apograph/apographlaw19.MultiwayBound", spec := "multiwayBound", inPlace := ["internal/bytealg.IndexByteString"], unfollowed := true, recurses := true, named := ["strconv.ErrSyntax", "strconv.ErrRange", "internal/strconv.uint64pow10", "math/bits.deBruijn32tab", "math/bits.deBruijn64tab"], apart := false, laid := [("math/bits.deBruijn32tab", laid_math_bits_deBruijn32tab), ("math/bits.deBruijn64tab", laid_math_bits_deBruijn64tab), ("internal/strconv.uint64pow10", laid_internal_strconv_uint64pow10), ("strconv.ErrRange", laid_strconv_ErrRange), ("strconv.ErrSyntax", laid_strconv_ErrSyntax)], narrowed := true }
def MultiwayBoundUptoSaid : Prop := multiwayBoundUptoRow.holds Tryz.pinned (OpenSpec.upto multiwayBoundSpec)

end Rows
end Go.Proofs.YtofikdpbagnjbaaGreatDoor
