/- Costs: plain functions. No program in sight. -/
import Derived.Test.YtiglobijdegjdaaDoorSpecG
namespace Go.Proofs.YtiglobijdegjdaaDoor

structure Costs where
  gap : Int
  norm : Int
  letter : Int
  most : Int
@[reducible] def Costs.cells (c : Costs) : List Value := [.int .i64 c.gap, .int .i64 c.norm, .int .i64 c.letter, .int .i64 c.most]
@[reducible] def Costs.val (c : Costs) : Value := .agg c.cells.toArray
def Costs.ints (c : Costs) : List Int := [c.gap, c.norm, c.letter, c.most]
def badN (n : Int) : Bool := decide (n < 0) || decide (1000 < n)
/-- Why costs are not valid. -/
def costE (c : Costs) : Int := if c.ints.any badN then 2 else if c.most < c.norm then 10 else 0
theorem costE_ok {c : Costs} (h : costE c = 0) : (0 ≤ c.gap ∧ c.gap ≤ 1000) ∧ (0 ≤ c.norm ∧ c.norm ≤ 1000) ∧ (0 ≤ c.letter ∧ c.letter ≤ 1000) ∧ (0 ≤ c.most ∧ c.most ≤ 1000) ∧ c.norm ≤ c.most := by
  unfold costE at h
  by_cases h1 : c.ints.any badN = true
  · rw [if_pos h1] at h; omega
  · rw [if_neg h1] at h
    simp only [Costs.ints, List.any_cons, List.any_nil, Bool.or_eq_true, badN, decide_eq_true_eq] at h1
    split at h <;> omega
def gapC (c : Costs) (t : Tok) : Int := if hasN t.flags 8 then (c.gap + 1) / 2 else c.gap
/-- The bytes of two strings at two places are equal. -/
def eqS (a b : ByteArray) (i j : Nat) : Bool := decide (((byteAt a (i : Int)).toNat : Int) = ((byteAt b (j : Int)).toNat : Int))
def distS (a b : ByteArray) : Int := lv (eqS a b) a.size b.size
def pairC (c : Costs) (a b : Tok) : Int :=
  if a.text = b.text then 0
  else if a.norm = b.norm ∨ hasN a.flags 2 = true ∨ hasN b.flags 2 = true then c.norm
  else min c.most (max c.norm (c.letter * distS a.norm b.norm))
end Go.Proofs.YtiglobijdegjdaaDoor
