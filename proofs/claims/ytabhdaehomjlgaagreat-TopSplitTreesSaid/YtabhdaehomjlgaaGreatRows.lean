/-
  No cell of these rows narrows 'for every input' (looked for: loops, veiled, ifaces, maps, wideKeys, modest, calm, conditions, laid).
  DERIVED. THE GIVEN ROWS OF THIS SEAT. 3 by the template 'for every input the law returns true; each argument reads behind the call as it read before'; 0 by the template 'total and deterministic' (their statements: YtabhdaehomjlgaaGreatTotals.lean).
  GIVEN WITH THE SEED: the statements are not yours to turn. If you find one false, say at which input.
  Laid BY PROGRAM, IN A SANDBOX (cutbox-rows.mjs): the forced cells as the released guide's own fill.sh prints them over the translation 88c3a1557f21dbb3… (all of the seat's roots in one cut). By AI agents, Wed Nov 11 2026. No macro, syntax, notation, axiom, sorry.
-/
import Derived.Test.YtabhdaehomjlgaaGreatChecked
import GoSem.Claim
import GoSem.ClaimJoined
import GoSem.ClaimMapViews
import Derived.JoinedTies
import Derived.KernelRfl
namespace Go.Proofs.YtabhdaehomjlgaaGreat
/- THE CELL 'sum', in the pinned program and in every row, IS THE sha256 OF THE DUMP (.gsa) THAT YtabhdaehomjlgaaGreatProg.lean LOADS. Nothing in Lean hashes anything: it is a label: what it is worth is what the hold of that sum in a sandbox is worth. -/
noncomputable def Tryz.pinned : Pinned := { name := "ytabhdaehomjlgaagreat", sum := "88c3a1557f21dbb3f33ae6ae29c5f12cde5f9ee21ac394fab6e4a16d704dcd34", checked := Tryz.checked }
namespace Rows
def none {H : Type} : Left H := { results := [], args := [] }

/-- 'apographtop.TopSplitTrees': WHATEVER THE INPUT: true; the input reads as it did. -/
def topSplitTreesSpec : ChangeSpec := { name := "topSplitTrees", fn := fun _ => fun
  | [d1, d2, d3] => { results := [.lit (.bool true)], args := [d1, d2, d3] }
  | _ => none }
def topSplitTreesRow : OpenClaim := { program := "ytabhdaehomjlgaagreat", sum := "88c3a1557f21dbb3f33ae6ae29c5f12cde5f9ee21ac394fab6e4a16d704dcd34", func := "apograph/apographtop.TopSplitTrees", spec := "topSplitTrees", inPlace := ["internal/bytealg.IndexByteString", "internal/bytealg.abigen_runtime_cmpstring", "internal/abi.NoEscape"], unfollowed := true, recurses := true, apart := false }
def TopSplitTreesSaid : Prop := topSplitTreesRow.holds Tryz.pinned (OpenSpec.ofChange topSplitTreesSpec)

/-- ITS FALSE NEIGHBOUR: 'it returns false'. Refute it at one input. -/
def topSplitTreesWrong : ChangeSpec := { name := "topSplitTrees", fn := fun _ => fun
  | [d1, d2, d3] => { results := [.lit (.bool false)], args := [d1, d2, d3] }
  | _ => none }
def TopSplitTreesWrongFalsely : Prop := topSplitTreesRow.holds Tryz.pinned (OpenSpec.ofChange topSplitTreesWrong)

/-- 'apographtop.TopParsimonyRestricted': WHATEVER THE INPUT: true; the input reads as it did. -/
def topParsimonyRestrictedSpec : ChangeSpec := { name := "topParsimonyRestricted", fn := fun _ => fun
  | [d1, d2, d3] => { results := [.lit (.bool true)], args := [d1, d2, d3] }
  | _ => none }
def topParsimonyRestrictedRow : OpenClaim := { program := "ytabhdaehomjlgaagreat", sum := "88c3a1557f21dbb3f33ae6ae29c5f12cde5f9ee21ac394fab6e4a16d704dcd34", func := "apograph/apographtop.TopParsimonyRestricted", spec := "topParsimonyRestricted", inPlace := ["internal/bytealg.IndexByteString", "internal/bytealg.abigen_runtime_cmpstring"], unfollowed := true, recurses := true, apart := false }
def TopParsimonyRestrictedSaid : Prop := topParsimonyRestrictedRow.holds Tryz.pinned (OpenSpec.ofChange topParsimonyRestrictedSpec)

/-- ITS FALSE NEIGHBOUR: 'it returns false'. Refute it at one input. -/
def topParsimonyRestrictedWrong : ChangeSpec := { name := "topParsimonyRestricted", fn := fun _ => fun
  | [d1, d2, d3] => { results := [.lit (.bool false)], args := [d1, d2, d3] }
  | _ => none }
def TopParsimonyRestrictedWrongFalsely : Prop := topParsimonyRestrictedRow.holds Tryz.pinned (OpenSpec.ofChange topParsimonyRestrictedWrong)

/-- 'apographtop.TopErrorsConsistent': WHATEVER THE INPUT: true; the input reads as it did. -/
def topErrorsConsistentSpec : ChangeSpec := { name := "topErrorsConsistent", fn := fun _ => fun
  | [d1, d2] => { results := [.lit (.bool true)], args := [d1, d2] }
  | _ => none }
def topErrorsConsistentRow : OpenClaim := { program := "ytabhdaehomjlgaagreat", sum := "88c3a1557f21dbb3f33ae6ae29c5f12cde5f9ee21ac394fab6e4a16d704dcd34", func := "apograph/apographtop.TopErrorsConsistent", spec := "topErrorsConsistent", inPlace := ["internal/bytealg.IndexByteString", "internal/bytealg.abigen_runtime_cmpstring"], unfollowed := true, recurses := true, apart := false }
def TopErrorsConsistentSaid : Prop := topErrorsConsistentRow.holds Tryz.pinned (OpenSpec.ofChange topErrorsConsistentSpec)

/-- ITS FALSE NEIGHBOUR: 'it returns false'. Refute it at one input. -/
def topErrorsConsistentWrong : ChangeSpec := { name := "topErrorsConsistent", fn := fun _ => fun
  | [d1, d2] => { results := [.lit (.bool false)], args := [d1, d2] }
  | _ => none }
def TopErrorsConsistentWrongFalsely : Prop := topErrorsConsistentRow.holds Tryz.pinned (OpenSpec.ofChange topErrorsConsistentWrong)

/- THE SECOND FORM. 'bulk': how many values and letters a reading holds, each counted each time it is reached (what is shared counts as often as it is met; a slice's spare places count too). A statement '..UptoSaid' is the law's where the arguments, and the package variables that the reading takes, are together of bulk at most 1048576: NARROWER than '..Said'. Prove '..Said' where nothing that the law and all that it calls make is longer than what came in: it says more and counts as full. Else prove '..UptoSaid'. A law counts once. -/
mutual
def uptoBulk {H : Type} : DataW H → Nat
  | .lit (.string bytes) => bytes.length + 1
  | .lit _ => 1
  | .nil => 1
  | .ptr d => uptoBulk d + 1
  | .slice elems spare => uptoBulkAll elems + uptoBulkAll spare + 1
  | .agg parts => uptoBulkAll parts + 1
  | .iface _ d => uptoBulk d + 1
  | .map entries => uptoBulkEntries entries + 1
  | .held _ => 1
def uptoBulkAll {H : Type} : List (DataW H) → Nat
  | [] => 0
  | d :: r => uptoBulk d + uptoBulkAll r
def uptoBulkEntries {H : Type} : List (Lit × DataW H) → Nat
  | [] => 0
  | x :: r => uptoBulkEntry x + uptoBulkEntries r
def uptoBulkEntry {H : Type} : Lit × DataW H → Nat
  | (.string bytes, d) => bytes.length + uptoBulk d + 1
  | (_, d) => uptoBulk d + 1
 end
def uptoSmall : (H : Type) → List (DataW H) → Bool := fun _ ds => decide (uptoBulkAll ds ≤ 1048576)
def OpenSpec.upto (s : _root_.Go.ChangeSpec) : _root_.Go.OpenSpec := { _root_.Go.OpenSpec.ofChange s with cond := some uptoSmall }

/-- 'apographtop.TopSplitTrees', WHERE WHAT IT READS IS OF BULK AT MOST 1048576: true; the input reads as it did. -/
def topSplitTreesUptoRow : OpenClaim := { program := "ytabhdaehomjlgaagreat", sum := "88c3a1557f21dbb3f33ae6ae29c5f12cde5f9ee21ac394fab6e4a16d704dcd34", func := "apograph/apographtop.TopSplitTrees", spec := "topSplitTrees", inPlace := ["internal/bytealg.IndexByteString", "internal/bytealg.abigen_runtime_cmpstring", "internal/abi.NoEscape"], unfollowed := true, recurses := true, apart := false, narrowed := true }
def TopSplitTreesUptoSaid : Prop := topSplitTreesUptoRow.holds Tryz.pinned (OpenSpec.upto topSplitTreesSpec)

/-- 'apographtop.TopParsimonyRestricted', WHERE WHAT IT READS IS OF BULK AT MOST 1048576: true; the input reads as it did. -/
def topParsimonyRestrictedUptoRow : OpenClaim := { program := "ytabhdaehomjlgaagreat", sum := "88c3a1557f21dbb3f33ae6ae29c5f12cde5f9ee21ac394fab6e4a16d704dcd34", func := "apograph/apographtop.TopParsimonyRestricted", spec := "topParsimonyRestricted", inPlace := ["internal/bytealg.IndexByteString", "internal/bytealg.abigen_runtime_cmpstring"], unfollowed := true, recurses := true, apart := false, narrowed := true }
def TopParsimonyRestrictedUptoSaid : Prop := topParsimonyRestrictedUptoRow.holds Tryz.pinned (OpenSpec.upto topParsimonyRestrictedSpec)

/-- 'apographtop.TopErrorsConsistent', WHERE WHAT IT READS IS OF BULK AT MOST 1048576: true; the input reads as it did. -/
def topErrorsConsistentUptoRow : OpenClaim := { program := "ytabhdaehomjlgaagreat", sum := "88c3a1557f21dbb3f33ae6ae29c5f12cde5f9ee21ac394fab6e4a16d704dcd34", func := "apograph/apographtop.TopErrorsConsistent", spec := "topErrorsConsistent", inPlace := ["internal/bytealg.IndexByteString", "internal/bytealg.abigen_runtime_cmpstring"], unfollowed := true, recurses := true, apart := false, narrowed := true }
def TopErrorsConsistentUptoSaid : Prop := topErrorsConsistentUptoRow.holds Tryz.pinned (OpenSpec.upto topErrorsConsistentSpec)

end Rows
end Go.Proofs.YtabhdaehomjlgaaGreat
