/- Costs of pairs and gaps, as the two packages hand them out: plain functions. No program in sight. -/
import Derived.Test.YtiglobijdegjdaaDoorSpecH
namespace Go.Proofs.YtiglobijdegjdaaDoor

theorem toList_beq (a b : ByteArray) : (a.toList == b.toList) = decide (a = b) := eq_toList a b
theorem toL_iff (a b : ByteArray) : a.toList = b.toList ↔ a = b := by
  have := eq_toList a b
  rw [Bool.eq_iff_iff] at this
  simpa using this
theorem Tok.eq_iff (a b : Tok) : a = b ↔ a.text = b.text ∧ a.norm = b.norm ∧ a.page = b.page ∧ a.line = b.line ∧ a.flags = b.flags ∧ a.name = b.name := by
  cases a; cases b; simp
theorem Costs.eq_iff (a b : Costs) : a = b ↔ a.gap = b.gap ∧ a.norm = b.norm ∧ a.letter = b.letter ∧ a.most = b.most := by
  cases a; cases b; simp
instance : DecidableEq Tok := fun a b => decidable_of_iff _ (Tok.eq_iff a b).symm
instance : DecidableEq Costs := fun a b => decidable_of_iff _ (Costs.eq_iff a b).symm
theorem Tok.val_inj {a b : Tok} (h : a.val = b.val) : a = b := by
  cases a; cases b; simp [Tok.val, Tok.cells] at h; simp [h]
theorem or_all : ∀ m : Nat, m < 32 → ∀ n : Nat, n < 32 → (0 ≤ orI (m : Int) (n : Int) ∧ orI (m : Int) (n : Int) ≤ 31) ∧ (!decide (andI (orI (m : Int) (n : Int)) 2 = 0)) = (hasN (m : Int) 2 || hasN (n : Int) 2) := by decide
theorem or_law (f g : Int) (h : 0 ≤ f ∧ f ≤ 31) (k : 0 ≤ g ∧ g ≤ 31) : (0 ≤ orI f g ∧ orI f g ≤ 31) ∧ (!decide (andI (orI f g) 2 = 0)) = (hasN f 2 || hasN g 2) := by
  obtain ⟨m, rfl⟩ := Int.eq_ofNat_of_zero_le h.1
  obtain ⟨n, rfl⟩ := Int.eq_ofNat_of_zero_le k.1
  exact or_all m (by omega) n (by omega)
/-- A token that is valid has short parts. -/
theorem tokE_ok {t : Tok} (h : tokE t = 0) : (0 ≤ t.flags ∧ t.flags ≤ 31) ∧ t.norm.size ≤ 64 ∧ t.text.size ≤ 64 ∧ 0 ≤ t.line := by
  unfold tokE at h
  by_cases h1 : t.flags < 0 ∨ 31 < t.flags
  · rw [if_pos h1] at h; omega
  rw [if_neg h1] at h
  by_cases h2 : (hasN t.flags 2 && hasN t.flags 8) = true
  · rw [if_pos h2] at h; omega
  rw [if_neg h2] at h
  by_cases h3 : formBad t = true
  · rw [if_pos h3] at h; omega
  rw [if_neg h3] at h
  by_cases h4 : t.line < 0
  · rw [if_pos h4] at h; omega
  have hs : t.norm.size ≤ 64 ∧ t.text.size ≤ 64 := by
    unfold formBad at h3
    by_cases g2 : hasN t.flags 2 = true
    · rw [if_pos g2] at h3
      simp only [Bool.or_eq_true, not_or, Bool.not_eq_true', Bool.not_eq_false', Bool.not_eq_false, decide_eq_true_eq] at h3
      have hg := h3.1
      unfold gappedB at hg
      rw [List.any_eq_true] at hg
      obtain ⟨n, hn, hh⟩ := hg
      simp only [Bool.and_eq_true, decide_eq_true_eq] at hh
      have hl := decDigits_len n (by have := List.mem_range.1 hn; omega)
      have : t.text.size ≤ 4 := by
        rw [hh.2]; unfold gapStr; simp only [ByteArray.size_append]; simp only [ByteArray.size, List.size_toArray]; simp; omega
      exact ⟨by rw [h3.2]; omega, by omega⟩
    rw [if_neg g2] at h3
    by_cases g8 : hasN t.flags 8 = true
    · rw [if_pos g8] at h3
      simp only [Bool.or_eq_true, not_or, Bool.not_eq_true', Bool.not_eq_false', Bool.not_eq_false, decide_eq_true_eq] at h3
      have h5 := h3.1.1
      have h6 := h3.2
      exact ⟨by rw [h6]; omega, by omega⟩
    rw [if_neg g8] at h3
    simp only [Bool.or_eq_true, not_or, Bool.not_eq_true', Bool.not_eq_false', Bool.not_eq_false, decide_eq_true_eq] at h3
    have := isWordB_size h3.1.1.1
    exact ⟨by omega, by omega⟩
  exact ⟨by omega, hs.1, hs.2, by omega⟩
/-- What Pair returns: a cost, an error. -/
def pairV (c : Costs) (a b : Tok) : Int × Int := if costE c = 0 ∧ tokE a = 0 ∧ tokE b = 0 then (pairC c a b, 0) else (0, 1)
def gapV (c : Costs) (t : Tok) : Int × Int := if costE c = 0 ∧ tokE t = 0 then (gapC c t, 0) else (0, 1)
def defaultC : Costs := ⟨40, 5, 20, 50⟩
theorem costE_default : costE defaultC = 0 := by decide

/-- A token with parts that are too long for the statements. -/
def longT (t : Tok) : Bool := decide ((12 : Int) < t.text.size) || decide ((12 : Int) < t.norm.size) || decide ((20 : Int) < t.page.size) || decide ((20 : Int) < t.name.size)
def oddAt (l : List Tok) (i : Nat) (t : Tok) : Bool := longT t || (decide ((8 : Int) < i) && !decide (some t = l[8]?))
def manyB (n : Int) : Bool := decide (8 < n) && decide (n < 33) || decide (258 < n) || decide (40 < n) && decide (n < 257)
noncomputable def greatB (l : List Tok) : Bool := open Classical in decide (∃ i, i < l.length ∧ ∃ t, l[i]? = some t ∧ oddAt l i t = true) || manyB l.length
theorem greatB_true {l : List Tok} {i : Nat} {t : Tok} (h : l[i]? = some t) (ho : oddAt l i t = true) : greatB l = true := by
  unfold greatB
  rw [decide_eq_true ⟨i, (List.getElem?_eq_some_iff.1 h).1, t, h, ho⟩, Bool.true_or]
theorem greatB_else {l : List Tok} (h : ∀ (i : Nat) t, l[i]? = some t → oddAt l i t = false) : greatB l = manyB l.length := by
  unfold greatB
  rw [decide_eq_false (by rintro ⟨i, _, t, ht, ho⟩; rw [h i t ht] at ho; cases ho), Bool.false_or]
theorem greatB_false {l : List Tok} (h : greatB l = false) : (∀ t, t ∈ l → longT t = false) ∧ manyB l.length = false := by
  unfold greatB at h
  rw [Bool.or_eq_false_iff, decide_eq_false_iff_not] at h
  refine ⟨fun t ht => ?_, h.2⟩
  obtain ⟨i, hi, e⟩ := List.getElem_of_mem ht
  cases hl : longT t with
  | false => rfl
  | true => exact absurd ⟨i, hi, t, by rw [List.getElem?_eq_getElem hi, e], by unfold oddAt; rw [hl]; rfl⟩ h.1
end Go.Proofs.YtiglobijdegjdaaDoor
