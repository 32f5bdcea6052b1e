/- Characters, words, names: what the document says of them, in plain functions. No program in sight. -/
import Derived.Test.YtiglobijdegjdaaDoorEngF
namespace Go.Proofs.YtiglobijdegjdaaDoor

/-- The kind of a character. -/
def kindI (c : Int) : Int :=
  if (97 ≤ c ∧ c ≤ 122) ∨ (65 ≤ c ∧ c ≤ 90) then 1
  else if c = 94 ∨ c = 126 ∨ c = 37 then 2
  else if 48 ≤ c ∧ c ≤ 57 then 3
  else if c = 39 then 4 else if c = 32 then 6
  else if c = 46 ∨ c = 44 ∨ c = 59 ∨ c = 58 ∨ c = 33 ∨ c = 63 ∨ c = 40 ∨ c = 41 ∨ c = 45 then 5 else 0
def kindB (c : UInt8) : Int := kindI (c.toNat : Int)
theorem kindI_bd (c : Int) : 0 ≤ kindI c ∧ kindI c ≤ 6 := by unfold kindI; (repeat' split) <;> omega
/-- A letter or a digit. -/
def alnum (c : UInt8) : Bool := decide (kindB c = 1 ∨ kindB c = 3)
def wordly (c : UInt8) : Bool := decide (kindB c = 1 ∨ kindB c = 2 ∨ kindB c = 3 ∨ kindB c = 4)
/-- How many letters and digits. -/
def lettersN (l : List UInt8) : Nat := (l.filter alnum).length
theorem lettersN_le (l : List UInt8) : lettersN l ≤ l.length := List.length_filter_le _ _
theorem lettersN_snoc (l : List UInt8) (c : UInt8) : lettersN (l ++ [c]) = lettersN l + if alnum c then 1 else 0 := by
  unfold lettersN
  rw [List.filter_append]
  cases h : alnum c <;> simp [h]
theorem byteAt_nat (s : ByteArray) (k : Nat) (h : k < s.size) : s.data.toList[k]? = some (byteAt s (k : Int)) := by
  have h2 : k < s.data.toList.length := by simpa using h
  unfold byteAt
  rw [List.getElem?_eq_getElem h2, Int.toNat_natCast, List.getD_eq_getElem?_getD, List.getElem?_eq_getElem h2]
  rfl
theorem take_snoc {α : Type} (l : List α) (k : Nat) (c : α) (h : l[k]? = some c) : l.take (k + 1) = l.take k ++ [c] := by
  rw [List.take_add_one, h]; rfl
theorem take_byte (s : ByteArray) (k : Int) (h0 : 0 ≤ k) (h : k < s.size) : s.data.toList.take (k + 1).toNat = s.data.toList.take k.toNat ++ [byteAt s k] := by
  obtain ⟨n, rfl⟩ := Int.eq_ofNat_of_zero_le h0
  rw [show ((n : Int) + 1).toNat = n + 1 from by omega, Int.toNat_natCast]
  exact take_snoc _ _ _ (byteAt_nat s n (by omega))
theorem take_all (s : ByteArray) (k : Int) (h : (s.size : Int) ≤ k) : s.data.toList.take k.toNat = s.data.toList := by
  apply List.take_of_length_le
  have : s.data.toList.length = s.size := by simp
  omega
/-! ### Characters of a string, by their places -/
def kAt (s : ByteArray) (j : Nat) : Int := kindI ((byteAt s (j : Int)).toNat : Int)
theorem kAt_bd (s : ByteArray) (j : Nat) : 0 ≤ kAt s j ∧ kAt s j ≤ 6 := kindI_bd _
theorem byteAt_pred (s : ByteArray) (k : Nat) : byteAt s ((k : Int) - 1) = byteAt s ((k - 1 : Nat) : Int) := by
  unfold byteAt
  congr 1
  omega
theorem alnum_at (s : ByteArray) (k : Nat) : alnum (byteAt s (k : Int)) = decide (kAt s k = 1 ∨ kAt s k = 3) := rfl
theorem lettersN_take (s : ByteArray) (k : Nat) (h : k < s.size) : (lettersN (s.data.toList.take (k + 1)) : Int) = lettersN (s.data.toList.take k) + if kAt s k = 1 ∨ kAt s k = 3 then 1 else 0 := by
  rw [take_snoc _ _ _ (byteAt_nat s k h), lettersN_snoc, alnum_at]
  by_cases h1 : kAt s k = 1 ∨ kAt s k = 3
  · simp [h1]
  · simp [h1]
/-- A mark can stand here. -/
def canAt (s : ByteArray) : Nat → Bool
  | 0 => false
  | k + 1 => decide (kAt s k = 1) || (decide (kAt s k = 2) && canAt s k)
/-- A mark that stands right. -/
def rtAt (s : ByteArray) (k : Nat) : Bool := decide (kAt s k = 2) && canAt s k
theorem canAt_succ (s : ByteArray) (k : Nat) : canAt s (k + 1) = (decide (kAt s k = 1) || rtAt s k) := rfl
def okAt (s : ByteArray) (k : Nat) : Bool := decide (kAt s k ≠ 0) && (decide (kAt s k ≠ 2) || canAt s k)
def okAll (s : ByteArray) : Bool := decide (∀ j, j < s.size → okAt s j = true)
theorem okAll_true {s : ByteArray} (h : ∀ j, j < s.size → okAt s j = true) : okAll s = true := by simpa [okAll] using h
theorem okAll_false {s : ByteArray} {j : Nat} (hj : j < s.size) (h : okAt s j = false) : okAll s = false := by
  unfold okAll
  rw [decide_eq_false_iff_not]
  intro hh
  rw [hh j hj] at h
  cases h
/-- Why a string is not accepted. -/
def checkS (s : ByteArray) : Int := if (65536 : Int) < s.size then 4 else if okAll s then 0 else 11
def rts (s : ByteArray) (n : Nat) : List Value := (List.range n).map fun j => .bool (rtAt s j)
theorem rts_get {s : ByteArray} {n j : Nat} (h : j < n) : (rts s n)[j]? = some (.bool (rtAt s j)) := by simp [rts, h]
theorem rts_succ (s : ByteArray) (n : Nat) : rts s (n + 1) = rts s n ++ [.bool (rtAt s n)] := by simp [rts, List.range_succ]
theorem get1 {l : List Value} {k : Nat} {v : Value} (h : l[k]? = some v) : ∀ j u, [v][j]? = some u → l[k + j]? = some u := by
  intro j u hu
  cases j with
  | zero => simp at hu; subst hu; exact h
  | succ j => simp at hu
/-- A word. -/
def isWordB (s : ByteArray) : Bool := decide (1 ≤ s.size ∧ s.size ≤ 64) && okAll s && (decide (kAt s 0 = 1) || decide (kAt s 0 = 3)) && decide (∀ j, j < s.size → kAt s j ≤ 4)
theorem isWordB_size {s : ByteArray} (h : isWordB s = true) : 1 ≤ s.size ∧ s.size ≤ 64 := by
  simp only [isWordB, Bool.and_eq_true, decide_eq_true_eq] at h
  exact h.1.1.1
/-- A name. -/
def isNameB (s : ByteArray) : Bool := decide (s.size ≤ 16) && (isWordB s && decide ((lettersN s.data.toList : Int) = s.size))
def namedB (s : ByteArray) : Bool := decide (s = ByteArray.mk #[]) || isNameB s
def wordlyK (k : Int) : Bool := decide (k = 1) || decide (k = 2) || decide (k = 3) || decide (k = 4)
end Go.Proofs.YtiglobijdegjdaaDoor
