/- Costs of pairs: plain laws: symmetric, bounded, doubled. -/
import Derived.Test.YtiglobijdegjdaaDoorSpecJ
namespace Go.Proofs.YtiglobijdegjdaaDoor

theorem lv_swap (e : Nat → Nat → Bool) : ∀ i j, lv e i j = lv (fun p q => e q p) j i
  | 0, 0 => rfl
  | 0, j + 1 => by rw [lv_zero, lv_left]; omega
  | i + 1, 0 => by rw [lv_left, lv_zero]; omega
  | i + 1, j + 1 => by
    rw [lv_step, lv_step, lv_swap e i (j + 1), lv_swap e (i + 1) j, lv_swap e i j]
    have : min (lv (fun p q => e q p) (j + 1) i) (lv (fun p q => e q p) j (i + 1)) = min (lv (fun p q => e q p) j (i + 1)) (lv (fun p q => e q p) (j + 1) i) := by omega
    rw [this]
termination_by i j => (i, j)
theorem distS_swap (a b : ByteArray) : distS a b = distS b a := by
  unfold distS
  rw [lv_swap]
  congr 1
  funext p q
  unfold eqS
  rw [decide_eq_decide]; exact eq_comm
theorem distS_ge (a b : ByteArray) : 0 ≤ distS a b ∧ distS a b ≤ a.size + b.size := lv_bd _ _ _
theorem sym3 {α : Type} {a b : α} {p q : Prop} (h : a = b ∨ p ∨ q) : b = a ∨ q ∨ p := by
  rcases h with h | h | h
  · exact .inl h.symm
  · exact .inr (.inr h)
  · exact .inr (.inl h)
theorem pairC_swap (c : Costs) (a b : Tok) : pairC c a b = pairC c b a := by
  unfold pairC
  by_cases h1 : a.text = b.text
  · rw [if_pos h1, if_pos h1.symm]
  rw [if_neg h1, if_neg (Ne.symm h1)]
  by_cases h2 : a.norm = b.norm ∨ hasN a.flags 2 = true ∨ hasN b.flags 2 = true
  · rw [if_pos h2, if_pos (sym3 h2)]
  · rw [if_neg h2, if_neg (fun h => h2 (sym3 h)), distS_swap]
theorem pairC_self (c : Costs) (a b : Tok) (h : a.text = b.text) : pairC c a b = 0 := by unfold pairC; rw [if_pos h]
theorem pairC_bd {c : Costs} (hc : costE c = 0) (a b : Tok) : 0 ≤ pairC c a b ∧ pairC c a b ≤ c.most := by
  obtain ⟨c1, c2, c3, c4, c5⟩ := costE_ok hc
  have hd := (distS_ge a.norm b.norm).1
  have hm : 0 ≤ c.letter * distS a.norm b.norm := Int.mul_nonneg c3.1 hd
  unfold pairC
  (repeat' split) <;> omega
theorem pairC_small {c : Costs} (hc : costE c = 0) (a b : Tok) (h : a.norm = b.norm ∨ hasN a.flags 2 = true ∨ hasN b.flags 2 = true) : pairC c a b ≤ c.norm := by
  obtain ⟨c1, c2, c3, c4, c5⟩ := costE_ok hc
  unfold pairC
  by_cases h1 : a.text = b.text
  · rw [if_pos h1]; omega
  · rw [if_neg h1, if_pos h]; omega
theorem pairC_great {c : Costs} (hc : costE c = 0) (a b : Tok) (h1 : a.text ≠ b.text) (h : ¬ (a.norm = b.norm ∨ hasN a.flags 2 = true ∨ hasN b.flags 2 = true)) : c.norm ≤ pairC c a b := by
  obtain ⟨c1, c2, c3, c4, c5⟩ := costE_ok hc
  unfold pairC
  rw [if_neg h1, if_neg h]; omega
theorem gapC_bd {c : Costs} (hc : costE c = 0) (t : Tok) : 0 ≤ gapC c t ∧ gapC c t ≤ c.gap := by
  obtain ⟨c1, c2, c3, c4, c5⟩ := costE_ok hc
  unfold gapC
  split <;> omega
def twiceC (c : Costs) : Costs := ⟨2 * c.gap, 2 * c.norm, 2 * c.letter, 2 * c.most⟩
theorem pairC_twice (c : Costs) (a b : Tok) : pairC (twiceC c) a b = 2 * pairC c a b := by
  unfold pairC twiceC
  dsimp only
  split
  · omega
  · split
    · omega
    · rw [Int.mul_assoc]
      generalize c.letter * distS a.norm b.norm = z
      omega
theorem gapC_twice (c : Costs) (t : Tok) (h : 0 ≤ c.gap) : gapC (twiceC c) t = 2 * gapC c t ∨ (c.gap % 2 = 1 ∧ gapC (twiceC c) t = 2 * gapC c t - 1) := by
  unfold gapC twiceC
  dsimp only
  split <;> omega
theorem costE_twice {c : Costs} (h : costE c = 0) : costE (twiceC c) = 0 ∨ 1000 < max (max (2 * c.gap) (2 * c.letter)) (2 * c.most) := by
  obtain ⟨c1, c2, c3, c4, c5⟩ := costE_ok h
  by_cases hh : 1000 < max (max (2 * c.gap) (2 * c.letter)) (2 * c.most)
  · exact .inr hh
  · left
    unfold costE twiceC
    have : (Costs.ints ⟨2 * c.gap, 2 * c.norm, 2 * c.letter, 2 * c.most⟩).any badN = false := by
      have hb : ∀ n : Int, 0 ≤ n → n ≤ 1000 → badN n = false := fun n h1 h2 => by unfold badN; rw [decide_eq_false (by omega), decide_eq_false (by omega)]; rfl
      simp only [Costs.ints, List.any_cons, List.any_nil]
      rw [hb _ (by omega) (by omega), hb _ (by omega) (by omega), hb _ (by omega) (by omega), hb _ (by omega) (by omega)]
      rfl
    rw [this]
    simp only [Bool.false_eq_true, if_false]
    rw [if_neg (by omega)]
end Go.Proofs.YtiglobijdegjdaaDoor
