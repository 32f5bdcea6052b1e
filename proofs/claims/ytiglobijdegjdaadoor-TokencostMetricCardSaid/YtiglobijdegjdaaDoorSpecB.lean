/- Tokens: what the document says of one, in plain functions. No program in sight. -/
import Derived.Test.YtiglobijdegjdaaDoorSpecA
import Derived.Test.YtiglobijdegjdaaDoorShelf
namespace Go.Proofs.YtiglobijdegjdaaDoor

structure Tok where
  text : ByteArray
  norm : ByteArray
  page : ByteArray
  line : Int
  flags : Int
  name : ByteArray
@[reducible] def Tok.cells (t : Tok) : List Value := [.string t.text, .string t.norm, .string t.page, .int .i64 t.line, .int .i64 t.flags, .string t.name]
@[reducible] def Tok.val (t : Tok) : Value := .agg t.cells.toArray
def hasN (f n : Int) : Bool := decide (f / n % 2 = 1)
/-- The Text of a gap. -/
def gapStr (n : Nat) : ByteArray := ⟨#[91]⟩ ++ ⟨(Lib.decDigits n).toArray⟩ ++ ⟨#[93]⟩
def gappedB (s : ByteArray) : Bool := (List.range 65).any fun n => decide (1 ≤ n) && decide (s = gapStr n)
theorem gappedB_true {s : ByteArray} {n : Nat} (h : n < 65) (h1 : 1 ≤ n) (h2 : s = gapStr n) : gappedB s = true := by
  unfold gappedB
  rw [List.any_eq_true]
  exact ⟨n, List.mem_range.2 h, by simp [h1, h2]⟩
theorem gappedB_false {s : ByteArray} (h : ∀ n, n < 65 → 1 ≤ n → s ≠ gapStr n) : gappedB s = false := by
  unfold gappedB
  rw [List.any_eq_false]
  intro n hn hh
  simp only [Bool.and_eq_true, decide_eq_true_eq] at hh
  exact h n (List.mem_range.1 hn) hh.1 hh.2
theorem decDigits_len (n : Nat) (h : n < 100) : (Lib.decDigits n).length ≤ 2 := by
  by_cases h1 : n < 10
  · rw [Lib.decDigits_one h1]; simp
  · rw [Lib.decDigits_two h1 h]; simp
def normB (s : ByteArray) : Bool := decide (∀ j, j < s.size → wordlyK (kAt s j) = true)
/-- The Text, or the Norm, is not right. -/
def formBad (t : Tok) : Bool :=
  if hasN t.flags 2 then !gappedB t.text || !decide (t.norm = t.text)
  else if hasN t.flags 8 then !decide ((t.text.size : Int) = 1) || (!decide (kAt t.text 0 = 5) && !decide (kAt t.text 0 = 4)) || !decide (t.norm = t.text)
  else !isWordB t.text || decide (t.norm = ByteArray.mk #[]) || decide ((64 : Int) < t.norm.size) || !normB t.norm
/-- Why a token is not valid. -/
def tokE (t : Tok) : Int :=
  if t.flags < 0 ∨ 31 < t.flags then 2
  else if hasN t.flags 2 && hasN t.flags 8 then 8
  else if formBad t then 11
  else if t.line < 0 then 2
  else if !namedB t.page || !namedB t.name then 14
  else 0
end Go.Proofs.YtiglobijdegjdaaDoor
