/- The reference's metric and matrix, walked. -/
import Derived.Test.YtiglobijdegjdaaDoorWalkQ
namespace Go.Proofs.YtiglobijdegjdaaDoor

def validV (c : Costs) (l : List Tok) (m : Int) : Int := if costE c ≠ 0 then 1 else if m < l.length then 4 else tokErr c l
theorem tokErr_bad {c : Costs} {l : List Tok} {t : Tok} (h : t ∈ l) (ht : tokE t ≠ 0) : tokErr c l = 1 := by
  refine (tokErr_01 c l).resolve_left fun e => ht ((tokErr_ok e).2 t h)
theorem tokErr_all {c : Costs} {l : List Tok} (hc : costE c = 0) (h : ∀ j, j < l.length → tokE (tkA l j) = 0) : tokErr c l = 0 := by
  unfold tokErr badL
  rw [if_neg]
  simp only [hc, decide_true, Bool.not_true, Bool.false_or, List.any_eq_true, not_exists, not_and, Bool.not_eq_true', Bool.not_eq_true, Bool.not_eq_false', Bool.not_eq_false, decide_eq_true_eq]
  intro t ht
  obtain ⟨j, hj, e⟩ := List.getElem_of_mem ht
  have := h j hj
  rw [Option.some.inj ((tkA_get hj).symm.trans ((List.getElem?_eq_getElem hj).trans (congrArg some e)))] at this
  simpa using this
theorem matC_pair {c : Costs} {l : List Tok} {i k : Nat} (hi : i < l.length) (hk : k < l.length) : matC c l i k = pairC c (tkA l i) (tkA l k) := by
  unfold matC
  by_cases h : i = k
  · subst h; rw [if_pos rfl, pairC_self c _ _ rfl]
  · rw [if_neg h, if_neg (by omega)]
    rcases Nat.lt_or_ge i k with h1 | h1
    · rw [Nat.min_eq_left (by omega), Nat.max_eq_right (by omega)]
    · rw [Nat.min_eq_right (by omega), Nat.max_eq_left (by omega), pairC_swap]
theorem valV_snoc (f : Nat → Int) (k : Nat) : valV f (k + 1) = valV f k ++ [.int .i64 (f k)] := by unfold valV; rw [List.range_succ, List.map_append]; rfl
end Go.Proofs.YtiglobijdegjdaaDoor
