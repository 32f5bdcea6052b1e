/- Matrices of costs: plain functions and laws. No program in sight. -/
import Derived.Test.YtiglobijdegjdaaDoorSpecP
namespace Go.Proofs.YtiglobijdegjdaaDoor

/-- The cost of a pair; the number behind the tokens stands for the gap. -/
def matC (c : Costs) (l : List Tok) (i k : Nat) : Int :=
  if i = k then 0 else if max i k = l.length then gapC c (tkA l (min i k)) else pairC c (tkA l (min i k)) (tkA l (max i k))
theorem matC_swap (c : Costs) (l : List Tok) (i k : Nat) : matC c l i k = matC c l k i := by
  unfold matC
  rw [Nat.max_comm i k, Nat.min_comm i k]
  by_cases h : i = k
  · rw [if_pos h, if_pos h.symm]
  · rw [if_neg h, if_neg (Ne.symm h)]
theorem matC_bd {c : Costs} (hc : costE c = 0) (l : List Tok) (i k : Nat) : 0 ≤ matC c l i k ∧ matC c l i k ≤ 1000 := by
  obtain ⟨c1, c2, c3, c4, c5⟩ := costE_ok hc
  have h1 := pairC_bd hc (tkA l (min i k)) (tkA l (max i k))
  have h2 := gapC_bd hc (tkA l (min i k))
  unfold matC
  (repeat' split) <;> omega
/-- .. of which j pairs have been found. -/
def matJ (c : Costs) (l : List Tok) (j i k : Nat) : Int := if (min i k, max i k) ∈ (pairsL (l.length + 1)).take j then matC c l i k else 0
theorem matJ_zero (c : Costs) (l : List Tok) (i : Nat) : matJ c l 0 i = fun _ => 0 := by funext k; unfold matJ; simp
theorem matJ_all (c : Costs) (l : List Tok) (j i k : Nat) (hj : (pairsL (l.length + 1)).length ≤ j) (hi : i ≤ l.length) (hk : k ≤ l.length) : matJ c l j i k = matC c l i k := by
  unfold matJ
  rw [List.take_of_length_le hj]
  by_cases h : i = k
  · subst h
    rw [if_neg (by rw [pairsL_mem]; omega)]
    unfold matC; rw [if_pos rfl]
  · rw [if_pos (by rw [pairsL_mem]; omega)]
theorem matJ_step (c : Costs) (l : List Tok) (j i q : Nat) (hp : (pairsL (l.length + 1))[j]? = some (i, q)) (hiq : i < q) (r k : Nat) :
    matJ c l (j + 1) r k = if (r = i ∧ k = q) ∨ (r = q ∧ k = i) then matC c l i q else matJ c l j r k := by
  unfold matJ
  rw [take_snoc _ _ _ hp]
  by_cases h : (r = i ∧ k = q) ∨ (r = q ∧ k = i)
  · rw [if_pos h, if_pos]
    · rcases h with ⟨rfl, rfl⟩ | ⟨rfl, rfl⟩
      · rfl
      · exact matC_swap c l _ _
    · rw [List.mem_append]
      right
      rw [List.mem_singleton, Prod.mk.injEq]
      omega
  · rw [if_neg h]
    congr 1
    rw [List.mem_append, List.mem_singleton, Prod.mk.injEq]
    have : ¬ (min r k = i ∧ max r k = q) := by omega
    simp [this]
theorem valV_put (f : Nat → Int) (tot k : Nat) (x : Int) : (valV f tot).set k (.int .i64 x) = valV (fun q => if q = k then x else f q) tot := by
  apply List.ext_getElem?
  intro q
  rw [List.getElem?_set]
  by_cases hq : q < tot
  · rw [valV_get hq, valV_get hq, valV_length]
    by_cases e : k = q
    · rw [if_pos e, if_pos (by omega), if_pos e.symm]
    · rw [if_neg e, if_neg (Ne.symm e)]
  · rw [List.getElem?_eq_none (by rw [valV_length]; omega), List.getElem?_eq_none (by rw [valV_length]; omega), valV_length]
    split
    · rw [if_neg (by omega)]
    · rfl
theorem valV_ext {f g : Nat → Int} {tot : Nat} (h : ∀ q, q < tot → f q = g q) : valV f tot = valV g tot := by
  unfold valV
  apply List.map_congr_left
  intro q hq
  rw [h q (List.mem_range.1 hq)]
theorem set_boundary {α : Type} (A : List α) (m k : Nat) (z x : α) (hm : 0 < m) (hk : k = A.length) : (A ++ List.replicate m z).set k x = (A ++ [x]) ++ List.replicate (m - 1) z := by
  subst hk
  obtain ⟨m, rfl⟩ : ∃ m', m = m' + 1 := ⟨m - 1, by omega⟩
  rw [List.set_append_right _ _ (Nat.le_refl _), Nat.sub_self, List.replicate_succ, List.set_cons_zero, Nat.add_sub_cancel]
  simp
/-- The rows of a square table of numbers. -/
def RowsOk (f : Nat → Nat → Int) (tot : Nat) (L : List (Nat × List Value)) : Prop := ∀ (i : Nat) x, L[i]? = some x → x.2 = valV (f i) tot
theorem rows_step {c : Costs} {l : List Tok} {j i q tot gi gq : Nat} {ci cq : List Value} {M : List (Nat × List Value)} (hR : RowsOk (matJ c l j) tot M) (hi : M[i]? = some (gi, ci)) (hq : M[q]? = some (gq, cq)) (hiq : i < q)
    (hp : (pairsL (l.length + 1))[j]? = some (i, q)) : RowsOk (matJ c l (j + 1)) tot ((M.set i (gi, ci.set q (.int .i64 (matC c l i q)))).set q (gq, cq.set i (.int .i64 (matC c l i q)))) := by
  have hst := matJ_step c l j i q hp hiq
  have hil := (List.getElem?_eq_some_iff.1 hi).1
  have hql := (List.getElem?_eq_some_iff.1 hq).1
  intro r x hx
  rw [List.getElem?_set] at hx
  by_cases h1 : q = r
  · subst h1
    rw [if_pos rfl, if_pos (by simpa using hql)] at hx
    cases hx
    dsimp only
    rw [show cq = _ from hR _ _ hq, valV_put]
    refine valV_ext fun k _ => ?_
    rw [hst]
    by_cases h2 : k = i
    · rw [if_pos h2, if_pos (.inr ⟨rfl, h2⟩)]
    · rw [if_neg h2, if_neg (by omega)]
  · rw [if_neg h1, List.getElem?_set] at hx
    by_cases h2 : i = r
    · subst h2
      rw [if_pos rfl, if_pos hil] at hx
      cases hx
      dsimp only
      rw [show ci = _ from hR _ _ hi, valV_put]
      refine valV_ext fun k _ => ?_
      rw [hst]
      by_cases h3 : k = q
      · rw [if_pos h3, if_pos (.inl ⟨rfl, h3⟩)]
      · rw [if_neg h3, if_neg (by omega)]
    · rw [if_neg h2] at hx
      rw [hR _ _ hx]
      refine valV_ext fun k _ => ?_
      rw [hst, if_neg (by omega)]
theorem rows_all {c : Costs} {l : List Tok} {j n : Nat} {M : List (Nat × List Value)} (hn : l.length = n) (hM : M.length = n + 1) (hR : RowsOk (matJ c l j) (n + 1) M) (hj : (pairsL (n + 1)).length ≤ j) : RowsOk (matC c l) (n + 1) M := by
  intro r x hx
  have hr := (List.getElem?_eq_some_iff.1 hx).1
  rw [hR _ _ hx]
  exact valV_ext fun k hk => matJ_all c l j r k (by rw [hn]; exact hj) (by omega) (by omega)
/-- The triangle inequality holds. -/
def metP (c : Costs) (l : List Tok) : Prop := ∀ i k j, i ≤ l.length → k ≤ l.length → j ≤ l.length → matC c l i k ≤ matC c l i j + matC c l j k
noncomputable def metB (c : Costs) (l : List Tok) : Bool := open Classical in decide (metP c l)
theorem metP_of {c : Costs} {l : List Tok} (hc : costE c = 0) (h : ∀ i k j, i < k → k ≤ l.length → j ≤ l.length → matC c l i k ≤ matC c l i j + matC c l j k) : metP c l := by
  intro i k j hi hk hj
  rcases Nat.lt_or_ge i k with h1 | h1
  · exact h i k j h1 hk hj
  · rcases Nat.lt_or_ge k i with h2 | h2
    · have := h k i j h2 hi hj
      rw [matC_swap c l i k, matC_swap c l i j, matC_swap c l j k]; omega
    · have e : i = k := by omega
      subst e
      have h3 := (matC_bd hc l i j).1
      have h4 := (matC_bd hc l j i).1
      have : matC c l i i = 0 := by unfold matC; rw [if_pos rfl]
      omega
theorem metB_true {c : Costs} {l : List Tok} (h : metP c l) : metB c l = true := by unfold metB; classical exact decide_eq_true h
theorem metB_false {c : Costs} {l : List Tok} (h : ¬ metP c l) : metB c l = false := by unfold metB; classical exact decide_eq_false h
end Go.Proofs.YtiglobijdegjdaaDoor
