/-
  NARROWER THAN 'FOR EVERY INPUT', by the rows' own cells (each row's printed sentence says how): PairwiseJoins: laid · PairwiseAligns: laid · PairwiseOptimal: laid · PairwiseTurned: laid · PairwiseCounts: laid · PairwiseChecks: laid · PairwiseProofs: laid · PairwiseBounds: laid.
  DERIVED. THE GIVEN ROWS OF THIS SEAT. 8 by the template 'for every input the law returns true; each argument reads behind the call as it read before'; 0 by the template 'total and deterministic' (their statements: YtmcgificpaeipaaGreatDoorTotals.lean).
  GIVEN WITH THE SEED: the statements are not yours to turn. If you find one false, say at which input.
  Laid BY PROGRAM, IN A SANDBOX (cutbox-rows.mjs): the forced cells as the released guide's own fill.sh prints them over the translation 999437091f63e31c… (all of the seat's roots in one cut). By AI agents, Wed Nov 11 2026. No macro, syntax, notation, axiom, sorry.
-/
import Derived.Test.YtmcgificpaeipaaGreatDoorChecked
import GoSem.Claim
import GoSem.ClaimJoined
import GoSem.ClaimMapViews
import Derived.JoinedTies
import Derived.KernelRfl
namespace Go.Proofs.YtmcgificpaeipaaGreatDoor
/- THE CELL 'sum', in the pinned program and in every row, IS THE sha256 OF THE DUMP (.gsa) THAT YtmcgificpaeipaaGreatDoorProg.lean LOADS. Nothing in Lean hashes anything: it is a label: what it is worth is what the hold of that sum in a sandbox is worth. -/
noncomputable def Tryz.pinned : Pinned := { name := "ytmcgificpaeipaagreatdoor", sum := "999437091f63e31c1d218628fb0a3470aa14d5863154bb33777c6de498b2c194", checked := Tryz.checked }
namespace Rows
def none {H : Type} : Left H := { results := [], args := [] }

/- WHAT THE LISTED PACKAGE-LEVEL VARIABLES READ AS WHEN THE CALL BEGINS. Each datum BY PROGRAM (the guide's laid-datum.mjs) off the statement by which the dump's own 'gosem.cut.vars' lays the variable. In a bare row this is a premise. The card (YtmcgificpaeipaaGreatDoorCards.lean) ties it to the program's text. -/
def laid_math_bits_deBruijn32tab {H : Type} : DataW H := .agg [.lit (.int .u8 0), .lit (.int .u8 1), .lit (.int .u8 28), .lit (.int .u8 2), .lit (.int .u8 29), .lit (.int .u8 14), .lit (.int .u8 24), .lit (.int .u8 3), .lit (.int .u8 30), .lit (.int .u8 22), .lit (.int .u8 20), .lit (.int .u8 15), .lit (.int .u8 25), .lit (.int .u8 17), .lit (.int .u8 4), .lit (.int .u8 8), .lit (.int .u8 31), .lit (.int .u8 27), .lit (.int .u8 13), .lit (.int .u8 23), .lit (.int .u8 21), .lit (.int .u8 19), .lit (.int .u8 16), .lit (.int .u8 7), .lit (.int .u8 26), .lit (.int .u8 12), .lit (.int .u8 18), .lit (.int .u8 6), .lit (.int .u8 11), .lit (.int .u8 5), .lit (.int .u8 10), .lit (.int .u8 9)]
def laid_math_bits_deBruijn64tab {H : Type} : DataW H := .agg [.lit (.int .u8 0), .lit (.int .u8 1), .lit (.int .u8 56), .lit (.int .u8 2), .lit (.int .u8 57), .lit (.int .u8 49), .lit (.int .u8 28), .lit (.int .u8 3), .lit (.int .u8 61), .lit (.int .u8 58), .lit (.int .u8 42), .lit (.int .u8 50), .lit (.int .u8 38), .lit (.int .u8 29), .lit (.int .u8 17), .lit (.int .u8 4), .lit (.int .u8 62), .lit (.int .u8 47), .lit (.int .u8 59), .lit (.int .u8 36), .lit (.int .u8 45), .lit (.int .u8 43), .lit (.int .u8 51), .lit (.int .u8 22), .lit (.int .u8 53), .lit (.int .u8 39), .lit (.int .u8 33), .lit (.int .u8 30), .lit (.int .u8 24), .lit (.int .u8 18), .lit (.int .u8 12), .lit (.int .u8 5), .lit (.int .u8 63), .lit (.int .u8 55), .lit (.int .u8 48), .lit (.int .u8 27), .lit (.int .u8 60), .lit (.int .u8 41), .lit (.int .u8 37), .lit (.int .u8 16), .lit (.int .u8 46), .lit (.int .u8 35), .lit (.int .u8 44), .lit (.int .u8 21), .lit (.int .u8 52), .lit (.int .u8 32), .lit (.int .u8 23), .lit (.int .u8 11), .lit (.int .u8 54), .lit (.int .u8 26), .lit (.int .u8 40), .lit (.int .u8 15), .lit (.int .u8 34), .lit (.int .u8 20), .lit (.int .u8 31), .lit (.int .u8 10), .lit (.int .u8 25), .lit (.int .u8 14), .lit (.int .u8 19), .lit (.int .u8 9), .lit (.int .u8 13), .lit (.int .u8 8), .lit (.int .u8 7), .lit (.int .u8 6)]
def laid_internal_strconv_uint64pow10 {H : Type} : DataW H := .agg [.lit (.int .u64 1), .lit (.int .u64 10), .lit (.int .u64 100), .lit (.int .u64 1000), .lit (.int .u64 10000), .lit (.int .u64 100000), .lit (.int .u64 1000000), .lit (.int .u64 10000000), .lit (.int .u64 100000000), .lit (.int .u64 1000000000), .lit (.int .u64 10000000000), .lit (.int .u64 100000000000), .lit (.int .u64 1000000000000), .lit (.int .u64 10000000000000), .lit (.int .u64 100000000000000), .lit (.int .u64 1000000000000000), .lit (.int .u64 10000000000000000), .lit (.int .u64 100000000000000000), .lit (.int .u64 1000000000000000000), .lit (.int .u64 10000000000000000000)]
def laid_strconv_ErrRange {H : Type} : DataW H := .iface "*errors.errorString" (.ptr (.agg [.lit (.string [118, 97, 108, 117, 101, 32, 111, 117, 116, 32, 111, 102, 32, 114, 97, 110, 103, 101])]))
def laid_strconv_ErrSyntax {H : Type} : DataW H := .iface "*errors.errorString" (.ptr (.agg [.lit (.string [105, 110, 118, 97, 108, 105, 100, 32, 115, 121, 110, 116, 97, 120])]))

/-- 'apographlaw18.PairwiseJoins': WHATEVER THE INPUT: true; the input reads as it did. -/
def pairwiseJoinsSpec : ChangeSpec := { name := "pairwiseJoins", fn := fun _ => fun
  | [d1, d2, d3, d4, d5] => { results := [.lit (.bool true)], args := [d1, d2, d3, d4, d5] }
  | _ => none }
def pairwiseJoinsRow : OpenClaim := { program := "ytmcgificpaeipaagreatdoor", sum := "999437091f63e31c1d218628fb0a3470aa14d5863154bb33777c6de498b2c194", func := "apograph/apographlaw18.PairwiseJoins", spec := "pairwiseJoins", inPlace := ["internal/bytealg.IndexByteString"], unfollowed := true, recurses := true, named := ["internal/strconv.uint64pow10", "math/bits.deBruijn32tab", "math/bits.deBruijn64tab", "strconv.ErrSyntax", "strconv.ErrRange"], apart := false, laid := [("math/bits.deBruijn32tab", laid_math_bits_deBruijn32tab), ("math/bits.deBruijn64tab", laid_math_bits_deBruijn64tab), ("internal/strconv.uint64pow10", laid_internal_strconv_uint64pow10), ("strconv.ErrRange", laid_strconv_ErrRange), ("strconv.ErrSyntax", laid_strconv_ErrSyntax)] }
def PairwiseJoinsSaid : Prop := pairwiseJoinsRow.holds Tryz.pinned (OpenSpec.ofChange pairwiseJoinsSpec)

/-- ITS FALSE NEIGHBOUR: 'it returns false'. Refute it at one input. -/
def pairwiseJoinsWrong : ChangeSpec := { name := "pairwiseJoins", fn := fun _ => fun
  | [d1, d2, d3, d4, d5] => { results := [.lit (.bool false)], args := [d1, d2, d3, d4, d5] }
  | _ => none }
def PairwiseJoinsWrongFalsely : Prop := pairwiseJoinsRow.holds Tryz.pinned (OpenSpec.ofChange pairwiseJoinsWrong)

/-- 'apographlaw18.PairwiseAligns': WHATEVER THE INPUT: true; the input reads as it did. -/
def pairwiseAlignsSpec : ChangeSpec := { name := "pairwiseAligns", fn := fun _ => fun
  | [d1, d2, d3] => { results := [.lit (.bool true)], args := [d1, d2, d3] }
  | _ => none }
def pairwiseAlignsRow : OpenClaim := { program := "ytmcgificpaeipaagreatdoor", sum := "999437091f63e31c1d218628fb0a3470aa14d5863154bb33777c6de498b2c194", func := "apograph/apographlaw18.PairwiseAligns", spec := "pairwiseAligns", inPlace := ["internal/bytealg.IndexByteString"], unfollowed := true, recurses := true, named := ["strconv.ErrSyntax", "strconv.ErrRange", "internal/strconv.uint64pow10", "math/bits.deBruijn32tab", "math/bits.deBruijn64tab"], apart := false, laid := [("math/bits.deBruijn32tab", laid_math_bits_deBruijn32tab), ("math/bits.deBruijn64tab", laid_math_bits_deBruijn64tab), ("internal/strconv.uint64pow10", laid_internal_strconv_uint64pow10), ("strconv.ErrRange", laid_strconv_ErrRange), ("strconv.ErrSyntax", laid_strconv_ErrSyntax)] }
def PairwiseAlignsSaid : Prop := pairwiseAlignsRow.holds Tryz.pinned (OpenSpec.ofChange pairwiseAlignsSpec)

/-- ITS FALSE NEIGHBOUR: 'it returns false'. Refute it at one input. -/
def pairwiseAlignsWrong : ChangeSpec := { name := "pairwiseAligns", fn := fun _ => fun
  | [d1, d2, d3] => { results := [.lit (.bool false)], args := [d1, d2, d3] }
  | _ => none }
def PairwiseAlignsWrongFalsely : Prop := pairwiseAlignsRow.holds Tryz.pinned (OpenSpec.ofChange pairwiseAlignsWrong)

/-- 'apographlaw18.PairwiseOptimal': WHATEVER THE INPUT: true; the input reads as it did. -/
def pairwiseOptimalSpec : ChangeSpec := { name := "pairwiseOptimal", fn := fun _ => fun
  | [d1, d2, d3, d4] => { results := [.lit (.bool true)], args := [d1, d2, d3, d4] }
  | _ => none }
def pairwiseOptimalRow : OpenClaim := { program := "ytmcgificpaeipaagreatdoor", sum := "999437091f63e31c1d218628fb0a3470aa14d5863154bb33777c6de498b2c194", func := "apograph/apographlaw18.PairwiseOptimal", spec := "pairwiseOptimal", inPlace := ["internal/bytealg.IndexByteString"], unfollowed := true, recurses := true, named := ["internal/strconv.uint64pow10", "math/bits.deBruijn32tab", "math/bits.deBruijn64tab", "strconv.ErrSyntax", "strconv.ErrRange"], apart := false, laid := [("math/bits.deBruijn32tab", laid_math_bits_deBruijn32tab), ("math/bits.deBruijn64tab", laid_math_bits_deBruijn64tab), ("internal/strconv.uint64pow10", laid_internal_strconv_uint64pow10), ("strconv.ErrRange", laid_strconv_ErrRange), ("strconv.ErrSyntax", laid_strconv_ErrSyntax)] }
def PairwiseOptimalSaid : Prop := pairwiseOptimalRow.holds Tryz.pinned (OpenSpec.ofChange pairwiseOptimalSpec)

/-- ITS FALSE NEIGHBOUR: 'it returns false'. Refute it at one input. -/
def pairwiseOptimalWrong : ChangeSpec := { name := "pairwiseOptimal", fn := fun _ => fun
  | [d1, d2, d3, d4] => { results := [.lit (.bool false)], args := [d1, d2, d3, d4] }
  | _ => none }
def PairwiseOptimalWrongFalsely : Prop := pairwiseOptimalRow.holds Tryz.pinned (OpenSpec.ofChange pairwiseOptimalWrong)

/-- 'apographlaw18.PairwiseTurned': WHATEVER THE INPUT: true; the input reads as it did. -/
def pairwiseTurnedSpec : ChangeSpec := { name := "pairwiseTurned", fn := fun _ => fun
  | [d1, d2, d3] => { results := [.lit (.bool true)], args := [d1, d2, d3] }
  | _ => none }
def pairwiseTurnedRow : OpenClaim := { program := "ytmcgificpaeipaagreatdoor", sum := "999437091f63e31c1d218628fb0a3470aa14d5863154bb33777c6de498b2c194", func := "apograph/apographlaw18.PairwiseTurned", spec := "pairwiseTurned", inPlace := ["internal/bytealg.IndexByteString"], unfollowed := true, recurses := true, named := ["internal/strconv.uint64pow10", "math/bits.deBruijn32tab", "math/bits.deBruijn64tab", "strconv.ErrSyntax", "strconv.ErrRange"], apart := false, laid := [("math/bits.deBruijn32tab", laid_math_bits_deBruijn32tab), ("math/bits.deBruijn64tab", laid_math_bits_deBruijn64tab), ("internal/strconv.uint64pow10", laid_internal_strconv_uint64pow10), ("strconv.ErrRange", laid_strconv_ErrRange), ("strconv.ErrSyntax", laid_strconv_ErrSyntax)] }
def PairwiseTurnedSaid : Prop := pairwiseTurnedRow.holds Tryz.pinned (OpenSpec.ofChange pairwiseTurnedSpec)

/-- ITS FALSE NEIGHBOUR: 'it returns false'. Refute it at one input. -/
def pairwiseTurnedWrong : ChangeSpec := { name := "pairwiseTurned", fn := fun _ => fun
  | [d1, d2, d3] => { results := [.lit (.bool false)], args := [d1, d2, d3] }
  | _ => none }
def PairwiseTurnedWrongFalsely : Prop := pairwiseTurnedRow.holds Tryz.pinned (OpenSpec.ofChange pairwiseTurnedWrong)

/-- 'apographlaw18.PairwiseCounts': WHATEVER THE INPUT: true; the input reads as it did. -/
def pairwiseCountsSpec : ChangeSpec := { name := "pairwiseCounts", fn := fun _ => fun
  | [d1, d2, d3] => { results := [.lit (.bool true)], args := [d1, d2, d3] }
  | _ => none }
def pairwiseCountsRow : OpenClaim := { program := "ytmcgificpaeipaagreatdoor", sum := "999437091f63e31c1d218628fb0a3470aa14d5863154bb33777c6de498b2c194", func := "apograph/apographlaw18.PairwiseCounts", spec := "pairwiseCounts", inPlace := ["internal/bytealg.IndexByteString"], unfollowed := true, recurses := true, named := ["internal/strconv.uint64pow10", "math/bits.deBruijn32tab", "math/bits.deBruijn64tab", "strconv.ErrSyntax", "strconv.ErrRange"], apart := false, laid := [("math/bits.deBruijn32tab", laid_math_bits_deBruijn32tab), ("math/bits.deBruijn64tab", laid_math_bits_deBruijn64tab), ("internal/strconv.uint64pow10", laid_internal_strconv_uint64pow10), ("strconv.ErrRange", laid_strconv_ErrRange), ("strconv.ErrSyntax", laid_strconv_ErrSyntax)] }
def PairwiseCountsSaid : Prop := pairwiseCountsRow.holds Tryz.pinned (OpenSpec.ofChange pairwiseCountsSpec)

/-- ITS FALSE NEIGHBOUR: 'it returns false'. Refute it at one input. -/
def pairwiseCountsWrong : ChangeSpec := { name := "pairwiseCounts", fn := fun _ => fun
  | [d1, d2, d3] => { results := [.lit (.bool false)], args := [d1, d2, d3] }
  | _ => none }
def PairwiseCountsWrongFalsely : Prop := pairwiseCountsRow.holds Tryz.pinned (OpenSpec.ofChange pairwiseCountsWrong)

/-- 'apographlaw18.PairwiseChecks': WHATEVER THE INPUT: true; the input reads as it did. -/
def pairwiseChecksSpec : ChangeSpec := { name := "pairwiseChecks", fn := fun _ => fun
  | [d] => { results := [.lit (.bool true)], args := [d] }
  | _ => none }
def pairwiseChecksRow : OpenClaim := { program := "ytmcgificpaeipaagreatdoor", sum := "999437091f63e31c1d218628fb0a3470aa14d5863154bb33777c6de498b2c194", func := "apograph/apographlaw18.PairwiseChecks", spec := "pairwiseChecks", inPlace := ["internal/bytealg.IndexByteString"], unfollowed := true, recurses := true, named := ["strconv.ErrSyntax", "strconv.ErrRange", "internal/strconv.uint64pow10", "math/bits.deBruijn32tab", "math/bits.deBruijn64tab"], apart := false, laid := [("math/bits.deBruijn32tab", laid_math_bits_deBruijn32tab), ("math/bits.deBruijn64tab", laid_math_bits_deBruijn64tab), ("internal/strconv.uint64pow10", laid_internal_strconv_uint64pow10), ("strconv.ErrRange", laid_strconv_ErrRange), ("strconv.ErrSyntax", laid_strconv_ErrSyntax)] }
def PairwiseChecksSaid : Prop := pairwiseChecksRow.holds Tryz.pinned (OpenSpec.ofChange pairwiseChecksSpec)

/-- ITS FALSE NEIGHBOUR: 'it returns false'. Refute it at one input. -/
def pairwiseChecksWrong : ChangeSpec := { name := "pairwiseChecks", fn := fun _ => fun
  | [d] => { results := [.lit (.bool false)], args := [d] }
  | _ => none }
def PairwiseChecksWrongFalsely : Prop := pairwiseChecksRow.holds Tryz.pinned (OpenSpec.ofChange pairwiseChecksWrong)

/-- 'apographlaw18.PairwiseProofs': WHATEVER THE INPUT: true; the input reads as it did. -/
def pairwiseProofsSpec : ChangeSpec := { name := "pairwiseProofs", fn := fun _ => fun
  | [d1, d2] => { results := [.lit (.bool true)], args := [d1, d2] }
  | _ => none }
def pairwiseProofsRow : OpenClaim := { program := "ytmcgificpaeipaagreatdoor", sum := "999437091f63e31c1d218628fb0a3470aa14d5863154bb33777c6de498b2c194", func := "apograph/apographlaw18.PairwiseProofs", spec := "pairwiseProofs", inPlace := ["internal/bytealg.IndexByteString"], unfollowed := true, recurses := true, named := ["internal/strconv.uint64pow10", "math/bits.deBruijn32tab", "math/bits.deBruijn64tab", "strconv.ErrSyntax", "strconv.ErrRange"], apart := false, laid := [("math/bits.deBruijn32tab", laid_math_bits_deBruijn32tab), ("math/bits.deBruijn64tab", laid_math_bits_deBruijn64tab), ("internal/strconv.uint64pow10", laid_internal_strconv_uint64pow10), ("strconv.ErrRange", laid_strconv_ErrRange), ("strconv.ErrSyntax", laid_strconv_ErrSyntax)] }
def PairwiseProofsSaid : Prop := pairwiseProofsRow.holds Tryz.pinned (OpenSpec.ofChange pairwiseProofsSpec)

/-- ITS FALSE NEIGHBOUR: 'it returns false'. Refute it at one input. -/
def pairwiseProofsWrong : ChangeSpec := { name := "pairwiseProofs", fn := fun _ => fun
  | [d1, d2] => { results := [.lit (.bool false)], args := [d1, d2] }
  | _ => none }
def PairwiseProofsWrongFalsely : Prop := pairwiseProofsRow.holds Tryz.pinned (OpenSpec.ofChange pairwiseProofsWrong)

/-- 'apographlaw18.PairwiseBounds': WHATEVER THE INPUT: true; the input reads as it did. -/
def pairwiseBoundsSpec : ChangeSpec := { name := "pairwiseBounds", fn := fun _ => fun
  | [d1, d2, d3, d4, d5] => { results := [.lit (.bool true)], args := [d1, d2, d3, d4, d5] }
  | _ => none }
def pairwiseBoundsRow : OpenClaim := { program := "ytmcgificpaeipaagreatdoor", sum := "999437091f63e31c1d218628fb0a3470aa14d5863154bb33777c6de498b2c194", func := "apograph/apographlaw18.PairwiseBounds", spec := "pairwiseBounds", inPlace := ["internal/bytealg.IndexByteString", "slices.overlaps[apograph/api.Token]"], unfollowed := true, recurses := true, named := ["internal/strconv.uint64pow10", "math/bits.deBruijn32tab", "math/bits.deBruijn64tab", "strconv.ErrSyntax", "strconv.ErrRange"], apart := false, laid := [("math/bits.deBruijn32tab", laid_math_bits_deBruijn32tab), ("math/bits.deBruijn64tab", laid_math_bits_deBruijn64tab), ("internal/strconv.uint64pow10", laid_internal_strconv_uint64pow10), ("strconv.ErrRange", laid_strconv_ErrRange), ("strconv.ErrSyntax", laid_strconv_ErrSyntax)] }
def PairwiseBoundsSaid : Prop := pairwiseBoundsRow.holds Tryz.pinned (OpenSpec.ofChange pairwiseBoundsSpec)

/-- ITS FALSE NEIGHBOUR: 'it returns false'. Refute it at one input. -/
def pairwiseBoundsWrong : ChangeSpec := { name := "pairwiseBounds", fn := fun _ => fun
  | [d1, d2, d3, d4, d5] => { results := [.lit (.bool false)], args := [d1, d2, d3, d4, d5] }
  | _ => none }
def PairwiseBoundsWrongFalsely : Prop := pairwiseBoundsRow.holds Tryz.pinned (OpenSpec.ofChange pairwiseBoundsWrong)

/- THE SECOND FORM. 'bulk': how many values and letters a reading holds, each counted each time it is reached (what is shared counts as often as it is met; a slice's spare places count too). A statement '..UptoSaid' is the law's where the arguments, and the package variables that the reading takes, are together of bulk at most 1048576: NARROWER than '..Said'. Prove '..Said' where nothing that the law and all that it calls make is longer than what came in: it says more and counts as full. Else prove '..UptoSaid'. A law counts once. -/
mutual
def uptoBulk {H : Type} : DataW H → Nat
  | .lit (.string bytes) => bytes.length + 1
  | .lit _ => 1
  | .nil => 1
  | .ptr d => uptoBulk d + 1
  | .slice elems spare => uptoBulkAll elems + uptoBulkAll spare + 1
  | .agg parts => uptoBulkAll parts + 1
  | .iface _ d => uptoBulk d + 1
  | .map entries => uptoBulkEntries entries + 1
  | .held _ => 1
def uptoBulkAll {H : Type} : List (DataW H) → Nat
  | [] => 0
  | d :: r => uptoBulk d + uptoBulkAll r
def uptoBulkEntries {H : Type} : List (Lit × DataW H) → Nat
  | [] => 0
  | x :: r => uptoBulkEntry x + uptoBulkEntries r
def uptoBulkEntry {H : Type} : Lit × DataW H → Nat
  | (.string bytes, d) => bytes.length + uptoBulk d + 1
  | (_, d) => uptoBulk d + 1
 end
def uptoSmall : (H : Type) → List (DataW H) → Bool := fun _ ds => decide (uptoBulkAll ds ≤ 1048576)
def OpenSpec.upto (s : _root_.Go.ChangeSpec) : _root_.Go.OpenSpec := { _root_.Go.OpenSpec.ofChange s with cond := some uptoSmall }

/-- 'apographlaw18.PairwiseJoins', WHERE WHAT IT READS IS OF BULK AT MOST 1048576: true; the input reads as it did. -/
def pairwiseJoinsUptoRow : OpenClaim := { program := "ytmcgificpaeipaagreatdoor", sum := "999437091f63e31c1d218628fb0a3470aa14d5863154bb33777c6de498b2c194", func := "apograph/apographlaw18.PairwiseJoins", spec := "pairwiseJoins", inPlace := ["internal/bytealg.IndexByteString"], unfollowed := true, recurses := true, named := ["internal/strconv.uint64pow10", "math/bits.deBruijn32tab", "math/bits.deBruijn64tab", "strconv.ErrSyntax", "strconv.ErrRange"], apart := false, laid := [("math/bits.deBruijn32tab", laid_math_bits_deBruijn32tab), ("math/bits.deBruijn64tab", laid_math_bits_deBruijn64tab), ("internal/strconv.uint64pow10", laid_internal_strconv_uint64pow10), ("strconv.ErrRange", laid_strconv_ErrRange), ("strconv.ErrSyntax", laid_strconv_ErrSyntax)], narrowed := true }
def PairwiseJoinsUptoSaid : Prop := pairwiseJoinsUptoRow.holds Tryz.pinned (OpenSpec.upto pairwiseJoinsSpec)

/-- 'apographlaw18.PairwiseAligns', WHERE WHAT IT READS IS OF BULK AT MOST 1048576: true; the input reads as it did. -/
def pairwiseAlignsUptoRow : OpenClaim := { program := "ytmcgificpaeipaagreatdoor", sum := "999437091f63e31c1d218628fb0a3470aa14d5863154bb33777c6de498b2c194", func := "apograph/apographlaw18.PairwiseAligns", spec := "pairwiseAligns", inPlace := ["internal/bytealg.IndexByteString"], unfollowed := true, recurses := true, named := ["strconv.ErrSyntax", "strconv.ErrRange", "internal/strconv.uint64pow10", "math/bits.deBruijn32tab", "math/bits.deBruijn64tab"], apart := false, laid := [("math/bits.deBruijn32tab", laid_math_bits_deBruijn32tab), ("math/bits.deBruijn64tab", laid_math_bits_deBruijn64tab), ("internal/strconv.uint64pow10", laid_internal_strconv_uint64pow10), ("strconv.ErrRange", laid_strconv_ErrRange), ("strconv.ErrSyntax", laid_strconv_ErrSyntax)], narrowed := true }
def PairwiseAlignsUptoSaid : Prop := pairwiseAlignsUptoRow.holds Tryz.pinned (OpenSpec.upto pairwiseAlignsSpec)

/-- 'apographlaw18.PairwiseOptimal', WHERE WHAT IT READS IS OF BULK AT MOST 1048576: true; the input reads as it did. -/
def pairwiseOptimalUptoRow : OpenClaim := { program := "ytmcgificpaeipaagreatdoor", sum := "999437091f63e31c1d218628fb0a3470aa14d5863154bb33777c6de498b2c194", func := "apograph/apographlaw18.PairwiseOptimal", spec := "pairwiseOptimal", inPlace := ["internal/bytealg.IndexByteString"], unfollowed := true, recurses := true, named := ["internal/strconv.uint64pow10", "math/bits.deBruijn32tab", "math/bits.deBruijn64tab", "strconv.ErrSyntax", "strconv.ErrRange"], apart := false, laid := [("math/bits.deBruijn32tab", laid_math_bits_deBruijn32tab), ("math/bits.deBruijn64tab", laid_math_bits_deBruijn64tab), ("internal/strconv.uint64pow10", laid_internal_strconv_uint64pow10), ("strconv.ErrRange", laid_strconv_ErrRange), ("strconv.ErrSyntax", laid_strconv_ErrSyntax)], narrowed := true }
def PairwiseOptimalUptoSaid : Prop := pairwiseOptimalUptoRow.holds Tryz.pinned (OpenSpec.upto pairwiseOptimalSpec)

/-- 'apographlaw18.PairwiseTurned', WHERE WHAT IT READS IS OF BULK AT MOST 1048576: true; the input reads as it did. -/
def pairwiseTurnedUptoRow : OpenClaim := { program := "ytmcgificpaeipaagreatdoor", sum := "999437091f63e31c1d218628fb0a3470aa14d5863154bb33777c6de498b2c194", func := "apograph/apographlaw18.PairwiseTurned", spec := "pairwiseTurned", inPlace := ["internal/bytealg.IndexByteString"], unfollowed := true, recurses := true, named := ["internal/strconv.uint64pow10", "math/bits.deBruijn32tab", "math/bits.deBruijn64tab", "strconv.ErrSyntax", "strconv.ErrRange"], apart := false, laid := [("math/bits.deBruijn32tab", laid_math_bits_deBruijn32tab), ("math/bits.deBruijn64tab", laid_math_bits_deBruijn64tab), ("internal/strconv.uint64pow10", laid_internal_strconv_uint64pow10), ("strconv.ErrRange", laid_strconv_ErrRange), ("strconv.ErrSyntax", laid_strconv_ErrSyntax)], narrowed := true }
def PairwiseTurnedUptoSaid : Prop := pairwiseTurnedUptoRow.holds Tryz.pinned (OpenSpec.upto pairwiseTurnedSpec)

/-- 'apographlaw18.PairwiseCounts', WHERE WHAT IT READS IS OF BULK AT MOST 1048576: true; the input reads as it did. -/
def pairwiseCountsUptoRow : OpenClaim := { program := "ytmcgificpaeipaagreatdoor", sum := "999437091f63e31c1d218628fb0a3470aa14d5863154bb33777c6de498b2c194", func := "apograph/apographlaw18.PairwiseCounts", spec := "pairwiseCounts", inPlace := ["internal/bytealg.IndexByteString"], unfollowed := true, recurses := true, named := ["internal/strconv.uint64pow10", "math/bits.deBruijn32tab", "math/bits.deBruijn64tab", "strconv.ErrSyntax", "strconv.ErrRange"], apart := false, laid := [("math/bits.deBruijn32tab", laid_math_bits_deBruijn32tab), ("math/bits.deBruijn64tab", laid_math_bits_deBruijn64tab), ("internal/strconv.uint64pow10", laid_internal_strconv_uint64pow10), ("strconv.ErrRange", laid_strconv_ErrRange), ("strconv.ErrSyntax", laid_strconv_ErrSyntax)], narrowed := true }
def PairwiseCountsUptoSaid : Prop := pairwiseCountsUptoRow.holds Tryz.pinned (OpenSpec.upto pairwiseCountsSpec)

/-- 'apographlaw18.PairwiseChecks', WHERE WHAT IT READS IS OF BULK AT MOST 1048576: true; the input reads as it did. -/
def pairwiseChecksUptoRow : OpenClaim := { program := "ytmcgificpaeipaagreatdoor", sum := "999437091f63e31c1d218628fb0a3470aa14d5863154bb33777c6de498b2c194", func := "apograph/apographlaw18.PairwiseChecks", spec := "pairwiseChecks", inPlace := ["internal/bytealg.IndexByteString"], unfollowed := true, recurses := true, named := ["strconv.ErrSyntax", "strconv.ErrRange", "internal/strconv.uint64pow10", "math/bits.deBruijn32tab", "math/bits.deBruijn64tab"], apart := false, laid := [("math/bits.deBruijn32tab", laid_math_bits_deBruijn32tab), ("math/bits.deBruijn64tab", laid_math_bits_deBruijn64tab), ("internal/strconv.uint64pow10", laid_internal_strconv_uint64pow10), ("strconv.ErrRange", laid_strconv_ErrRange), ("strconv.ErrSyntax", laid_strconv_ErrSyntax)], narrowed := true }
def PairwiseChecksUptoSaid : Prop := pairwiseChecksUptoRow.holds Tryz.pinned (OpenSpec.upto pairwiseChecksSpec)

/-- 'apographlaw18.PairwiseProofs', WHERE WHAT IT READS IS OF BULK AT MOST 1048576: true; the input reads as it did. -/
def pairwiseProofsUptoRow : OpenClaim := { program := "ytmcgificpaeipaagreatdoor", sum := "999437091f63e31c1d218628fb0a3470aa14d5863154bb33777c6de498b2c194", func := "apograph/apographlaw18.PairwiseProofs", spec := "pairwiseProofs", inPlace := ["internal/bytealg.IndexByteString"], unfollowed := true, recurses := true, named := ["internal/strconv.uint64pow10", "math/bits.deBruijn32tab", "math/bits.deBruijn64tab", "strconv.ErrSyntax", "strconv.ErrRange"], apart := false, laid := [("math/bits.deBruijn32tab", laid_math_bits_deBruijn32tab), ("math/bits.deBruijn64tab", laid_math_bits_deBruijn64tab), ("internal/strconv.uint64pow10", laid_internal_strconv_uint64pow10), ("strconv.ErrRange", laid_strconv_ErrRange), ("strconv.ErrSyntax", laid_strconv_ErrSyntax)], narrowed := true }
def PairwiseProofsUptoSaid : Prop := pairwiseProofsUptoRow.holds Tryz.pinned (OpenSpec.upto pairwiseProofsSpec)

/-- 'apographlaw18.PairwiseBounds', WHERE WHAT IT READS IS OF BULK AT MOST 1048576: true; the input reads as it did. -/
def pairwiseBoundsUptoRow : OpenClaim := { program := "ytmcgificpaeipaagreatdoor", sum := "999437091f63e31c1d218628fb0a3470aa14d5863154bb33777c6de498b2c194", func := "apograph/apographlaw18.PairwiseBounds", spec := "pairwiseBounds", inPlace := ["internal/bytealg.IndexByteString", "slices.overlaps[apograph/api.Token]"], unfollowed := true, recurses := true, named := ["internal/strconv.uint64pow10", "math/bits.deBruijn32tab", "math/bits.deBruijn64tab", "strconv.ErrSyntax", "strconv.ErrRange"], apart := false, laid := [("math/bits.deBruijn32tab", laid_math_bits_deBruijn32tab), ("math/bits.deBruijn64tab", laid_math_bits_deBruijn64tab), ("internal/strconv.uint64pow10", laid_internal_strconv_uint64pow10), ("strconv.ErrRange", laid_strconv_ErrRange), ("strconv.ErrSyntax", laid_strconv_ErrSyntax)], narrowed := true }
def PairwiseBoundsUptoSaid : Prop := pairwiseBoundsUptoRow.holds Tryz.pinned (OpenSpec.upto pairwiseBoundsSpec)

end Rows
end Go.Proofs.YtmcgificpaeipaaGreatDoor
