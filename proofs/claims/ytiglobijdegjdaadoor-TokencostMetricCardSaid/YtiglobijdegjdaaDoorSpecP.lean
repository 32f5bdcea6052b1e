/- Columns: plain functions and laws. No program in sight. -/
import Derived.Test.YtiglobijdegjdaaDoorSpecN
namespace Go.Proofs.YtiglobijdegjdaaDoor

def noTok : Tok := ⟨.empty, .empty, .empty, 0, 0, .empty⟩
def tkA (l : List Tok) (i : Nat) : Tok := l.getD i noTok
def thA (b : List Bool) (i : Nat) : Bool := b.getD i false
theorem tkA_get {l : List Tok} {i : Nat} (h : i < l.length) : l[i]? = some (tkA l i) := by
  unfold tkA; rw [List.getD_eq_getElem?_getD, List.getElem?_eq_getElem h]; rfl
theorem thA_get {l : List Bool} {i : Nat} (h : i < l.length) : l[i]? = some (thA l i) := by
  unfold thA; rw [List.getD_eq_getElem?_getD, List.getElem?_eq_getElem h]; rfl
theorem tkA_mem {l : List Tok} {i : Nat} (h : i < l.length) : tkA l i ∈ l := List.mem_of_getElem? (tkA_get h)
/-- What two sources of a column cost. -/
def cellC (c : Costs) (l : List Tok) (b : List Bool) (i k : Nat) : Int :=
  if (thA b i && thA b k) = true then pairC c (tkA l i) (tkA l k) else if thA b i = true then gapC c (tkA l i) else if thA b k = true then gapC c (tkA l k) else 0
/-- The pairs of different numbers below n. -/
def pairsL (n : Nat) : List (Nat × Nat) := (List.range n).flatMap fun k => (List.range k).map fun i => (i, k)
def rowP (i k : Nat) : List (Nat × Nat) := (List.range i).map fun q => (q, k)
theorem pairsL_succ (k : Nat) : pairsL (k + 1) = pairsL k ++ rowP k k := by
  unfold pairsL rowP; rw [List.range_succ, List.flatMap_append]; simp
theorem rowP_succ (i k : Nat) : rowP (i + 1) k = rowP i k ++ [(i, k)] := by unfold rowP; rw [List.range_succ]; simp
theorem rowP_length (i k : Nat) : (rowP i k).length = i := by simp [rowP]
theorem rowP_get {i k n : Nat} (h : i < n) : (rowP n k)[i]? = some (i, k) := by unfold rowP; simp [h]
theorem pairsL_get {n k i : Nat} (hk : k < n) (hi : i < k) : (pairsL n)[(pairsL k).length + i]? = some (i, k) := by
  induction n with
  | zero => omega
  | succ n ih =>
    rw [pairsL_succ]
    rcases Nat.lt_or_ge k n with h | h
    · have := ih h
      rw [List.getElem?_append_left (List.getElem?_eq_some_iff.1 this).1]
      exact this
    · have e : k = n := by omega
      subst e
      rw [List.getElem?_append_right (by omega), Nat.add_sub_cancel_left]
      exact rowP_get hi
theorem pairsL_mem {n i k : Nat} : (i, k) ∈ pairsL n ↔ i < k ∧ k < n := by
  unfold pairsL
  simp only [List.mem_flatMap, List.mem_range, List.mem_map, Prod.mk.injEq]
  constructor
  · rintro ⟨a, ha, b, hb, rfl, rfl⟩; exact ⟨hb, ha⟩
  · rintro ⟨h1, h2⟩; exact ⟨k, h2, i, h1, rfl, rfl⟩
theorem pairsL_len (n : Nat) : (pairsL n).length ≤ n * n := by
  induction n with
  | zero => simp [pairsL]
  | succ n ih =>
    rw [pairsL_succ, List.length_append, rowP_length]
    have : (n + 1) * (n + 1) = n * n + 2 * n + 1 := by rw [Nat.add_mul, Nat.mul_add]; omega
    omega
def psum (f : Nat → Nat → Int) (ps : List (Nat × Nat)) : Int := ps.foldl (fun s p => s + f p.1 p.2) 0
theorem psum_snoc (f : Nat → Nat → Int) (ps : List (Nat × Nat)) (p : Nat × Nat) : psum f (ps ++ [p]) = psum f ps + f p.1 p.2 := by unfold psum; rw [List.foldl_append]; rfl
theorem psum_bd {f : Nat → Nat → Int} {M : Int} (hM : 0 ≤ M) (ps : List (Nat × Nat)) (h : ∀ p ∈ ps, 0 ≤ f p.1 p.2 ∧ f p.1 p.2 ≤ M) : 0 ≤ psum f ps ∧ psum f ps ≤ M * ps.length := by
  have key : ∀ (ps : List (Nat × Nat)) (s : Int), (∀ p ∈ ps, 0 ≤ f p.1 p.2 ∧ f p.1 p.2 ≤ M) → s ≤ ps.foldl (fun s p => s + f p.1 p.2) s ∧ ps.foldl (fun s p => s + f p.1 p.2) s ≤ s + M * ps.length := by
    intro ps
    induction ps with
    | nil => intro s _; simp
    | cons p ps ih =>
      intro s h
      have h1 := ih (s + f p.1 p.2) (fun q hq => h q (List.mem_cons_of_mem _ hq))
      have h2 := h p (List.mem_cons_self ..)
      simp only [List.foldl_cons, List.length_cons]
      have : M * ((ps.length : Int) + 1) = M * ps.length + M := by rw [Int.mul_add, Int.mul_one]
      push_cast
      omega
  have := key ps 0 h
  unfold psum
  omega
/-- A token that is there is not valid. -/
def badCol (l : List Tok) (b : List Bool) : Bool := (List.range l.length).any fun j => thA b j && !decide (tokE (tkA l j) = 0)
theorem badCol_true {l : List Tok} {b : List Bool} {j : Nat} (hj : j < l.length) (h1 : thA b j = true) (h2 : tokE (tkA l j) ≠ 0) : badCol l b = true := by
  unfold badCol
  rw [List.any_eq_true]
  exact ⟨j, List.mem_range.2 hj, by simp [h1, h2]⟩
theorem badCol_false {l : List Tok} {b : List Bool} (h : ∀ j, j < l.length → thA b j = true → tokE (tkA l j) = 0) : badCol l b = false := by
  unfold badCol
  rw [List.any_eq_false]
  intro j hj hh
  simp only [Bool.and_eq_true, Bool.not_eq_true', decide_eq_false_iff_not] at hh
  exact hh.2 (h j (List.mem_range.1 hj) hh.1)
def columnV (c : Costs) (l : List Tok) (b : List Bool) : Int × Int :=
  if costE c ≠ 0 then (0, 1) else if l.length ≠ b.length then (0, 9) else if 32 < l.length then (0, 4) else if badCol l b = true then (0, 1) else (psum (cellC c l b) (pairsL l.length), 0)
theorem cellC_bd {c : Costs} (hc : costE c = 0) (l : List Tok) (b : List Bool) (i k : Nat) : 0 ≤ cellC c l b i k ∧ cellC c l b i k ≤ 1000 := by
  obtain ⟨c1, c2, c3, c4, c5⟩ := costE_ok hc
  have h1 := pairC_bd hc (tkA l i) (tkA l k)
  have h2 := gapC_bd hc (tkA l i)
  have h3 := gapC_bd hc (tkA l k)
  unfold cellC
  (repeat' split) <;> omega
theorem psum_cell {c : Costs} (hc : costE c = 0) (l : List Tok) (b : List Bool) (ps : List (Nat × Nat)) : 0 ≤ psum (cellC c l b) ps ∧ psum (cellC c l b) ps ≤ 1000 * ps.length := psum_bd (by omega) ps fun p _ => cellC_bd hc l b p.1 p.2

/-- The sum so far: all pairs below i, and k pairs with i. -/
def accC (f : Nat → Nat → Int) (i : Nat) : Nat → Int
  | 0 => psum f (pairsL i)
  | k + 1 => accC f i k + f k i
theorem accC_eq (f : Nat → Nat → Int) (i : Nat) : ∀ k, accC f i k = psum f (pairsL i ++ rowP k i)
  | 0 => by simp [accC, rowP]
  | k + 1 => by rw [rowP_succ, ← List.append_assoc, psum_snoc, ← accC_eq f i k]; rfl
theorem accC_all (f : Nat → Nat → Int) (i : Nat) : accC f i i = psum f (pairsL (i + 1)) := by rw [accC_eq, pairsL_succ]
theorem accC_bd {c : Costs} (hc : costE c = 0) (l : List Tok) (b : List Bool) (i k : Nat) (hi : i ≤ 32) (hk : k ≤ 32) : 0 ≤ accC (cellC c l b) i k ∧ accC (cellC c l b) i k ≤ 2000000 := by
  have h1 := psum_cell hc l b (pairsL i ++ rowP k i)
  rw [← accC_eq, List.length_append, rowP_length] at h1
  have h2 := pairsL_len i
  have h3 : i * i ≤ 32 * 32 := Nat.mul_le_mul hi hi
  omega
end Go.Proofs.YtiglobijdegjdaaDoor
