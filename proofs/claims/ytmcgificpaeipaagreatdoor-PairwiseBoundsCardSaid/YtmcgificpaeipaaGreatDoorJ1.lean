/- Pairs of sources, aligned: plain functions and laws: moves, the table of least costs, the numbers of ways. No program in sight. -/
import Derived.Test.YtmcgificpaeipaaGreatDoorJ0
import Derived.Laws.StructEq
import Derived.Laws.Tables
import Derived.Test.YtmcgificpaeipaaGreatDoorProg
set_option linter.unusedVariables false
set_option linter.unusedSimpArgs false
namespace Go.Proofs.YtmcgificpaeipaaGreatDoor

/-- How many tokens there are; what a pair costs, a gap beside the one, beside the other. -/
structure Grd where
  n : Nat
  m : Nat
  p : Nat → Nat → Int
  g : Nat → Int
  h : Nat → Int
structure Mv where
  fst : Nat
  snd : Nat
  cost : Int
@[reducible] def Mv.cells (x : Mv) : List Value := [.int .i64 (x.fst : Nat), .int .i64 (x.snd : Nat), .int .i64 x.cost]
def mvs (G : Grd) (i k : Nat) : List Mv :=
  (if i < G.n ∧ k < G.m then [⟨1, 1, G.p i k⟩] else []) ++ ((if i < G.n then [⟨1, 0, G.g i⟩] else []) ++ (if k < G.m then [⟨0, 1, G.h k⟩] else []))
theorem mvs_both {G : Grd} {i k : Nat} (hi : i < G.n) (hk : k < G.m) : mvs G i k = [⟨1, 1, G.p i k⟩, ⟨1, 0, G.g i⟩, ⟨0, 1, G.h k⟩] := by unfold mvs; rw [if_pos ⟨hi, hk⟩, if_pos hi, if_pos hk]; rfl
theorem mvs_fst {G : Grd} {i k : Nat} (hi : i < G.n) (hk : ¬ k < G.m) : mvs G i k = [⟨1, 0, G.g i⟩] := by unfold mvs; rw [if_neg (fun h => hk h.2), if_pos hi, if_neg hk]; rfl
theorem mvs_snd {G : Grd} {i k : Nat} (hi : ¬ i < G.n) (hk : k < G.m) : mvs G i k = [⟨0, 1, G.h k⟩] := by unfold mvs; rw [if_neg (fun h => hi h.1), if_neg hi, if_pos hk]; rfl
theorem mvs_none {G : Grd} {i k : Nat} (hi : ¬ i < G.n) (hk : ¬ k < G.m) : mvs G i k = [] := by unfold mvs; rw [if_neg (fun h => hi h.1), if_neg hi, if_neg hk]; rfl
theorem mvs_to {G : Grd} {i k : Nat} {x : Mv} (h : x ∈ mvs G i k) : (x.fst = 1 ∧ x.snd = 1 ∧ i < G.n ∧ k < G.m ∧ x.cost = G.p i k) ∨ (x.fst = 1 ∧ x.snd = 0 ∧ i < G.n ∧ x.cost = G.g i) ∨ (x.fst = 0 ∧ x.snd = 1 ∧ k < G.m ∧ x.cost = G.h k) := by
  unfold mvs at h
  simp only [List.mem_append] at h
  rcases h with h | h | h
  · split at h
    · rename_i hh; simp at h; subst h; exact .inl ⟨rfl, rfl, hh.1, hh.2, rfl⟩
    · simp at h
  · split at h
    · rename_i hh; simp at h; subst h; exact .inr (.inl ⟨rfl, rfl, hh, rfl⟩)
    · simp at h
  · split at h
    · rename_i hh; simp at h; subst h; exact .inr (.inr ⟨rfl, rfl, hh, rfl⟩)
    · simp at h
/-- The least cost of the rests. -/
def rst (G : Grd) (i k : Nat) : Int :=
  if _ : i < G.n ∧ k < G.m then min (min (G.p i k + rst G (i + 1) (k + 1)) (G.g i + rst G (i + 1) k)) (G.h k + rst G i (k + 1))
  else if _ : i < G.n then G.g i + rst G (i + 1) k
  else if _ : k < G.m then G.h k + rst G i (k + 1)
  else 0
termination_by (G.n - i) + (G.m - k)
theorem rst_both {G : Grd} {i k : Nat} (hi : i < G.n) (hk : k < G.m) : rst G i k = min (min (G.p i k + rst G (i + 1) (k + 1)) (G.g i + rst G (i + 1) k)) (G.h k + rst G i (k + 1)) := by
  rw [rst, dif_pos ⟨hi, hk⟩]
theorem rst_fst {G : Grd} {i k : Nat} (hi : i < G.n) (hk : ¬ k < G.m) : rst G i k = G.g i + rst G (i + 1) k := by rw [rst, dif_neg (fun h => hk h.2), dif_pos hi]
theorem rst_snd {G : Grd} {i k : Nat} (hi : ¬ i < G.n) (hk : k < G.m) : rst G i k = G.h k + rst G i (k + 1) := by rw [rst, dif_neg (fun h => hi h.1), dif_neg hi, dif_pos hk]
theorem rst_none {G : Grd} {i k : Nat} (hi : ¬ i < G.n) (hk : ¬ k < G.m) : rst G i k = 0 := by rw [rst, dif_neg (fun h => hi h.1), dif_neg hi, dif_neg hk]
/-- The cost by way of a move. -/
def via (G : Grd) (i k : Nat) (x : Mv) : Int := x.cost + rst G (i + x.fst) (k + x.snd)
def big : Int := 1073741824
def addW (t s x w : Int) : Int := if x = t then min big (s + w) else s
/-- In how many ways the least cost arises. -/
def wys (G : Grd) (i k : Nat) : Int :=
  if _ : i < G.n ∧ k < G.m then
    addW (rst G i k) (addW (rst G i k) (addW (rst G i k) 0 (G.p i k + rst G (i + 1) (k + 1)) (wys G (i + 1) (k + 1))) (G.g i + rst G (i + 1) k) (wys G (i + 1) k)) (G.h k + rst G i (k + 1)) (wys G i (k + 1))
  else if _ : i < G.n then addW (rst G i k) 0 (G.g i + rst G (i + 1) k) (wys G (i + 1) k)
  else if _ : k < G.m then addW (rst G i k) 0 (G.h k + rst G i (k + 1)) (wys G i (k + 1))
  else 1
termination_by (G.n - i) + (G.m - k)
theorem wys_both {G : Grd} {i k : Nat} (hi : i < G.n) (hk : k < G.m) : wys G i k = addW (rst G i k) (addW (rst G i k) (addW (rst G i k) 0 (G.p i k + rst G (i + 1) (k + 1)) (wys G (i + 1) (k + 1))) (G.g i + rst G (i + 1) k) (wys G (i + 1) k)) (G.h k + rst G i (k + 1)) (wys G i (k + 1)) := by
  rw [wys, dif_pos ⟨hi, hk⟩]
theorem wys_fst {G : Grd} {i k : Nat} (hi : i < G.n) (hk : ¬ k < G.m) : wys G i k = addW (rst G i k) 0 (G.g i + rst G (i + 1) k) (wys G (i + 1) k) := by rw [wys, dif_neg (fun h => hk h.2), dif_pos hi]
theorem wys_snd {G : Grd} {i k : Nat} (hi : ¬ i < G.n) (hk : k < G.m) : wys G i k = addW (rst G i k) 0 (G.h k + rst G i (k + 1)) (wys G i (k + 1)) := by rw [wys, dif_neg (fun h => hi h.1), dif_neg hi, dif_pos hk]
theorem wys_none {G : Grd} {i k : Nat} (hi : ¬ i < G.n) (hk : ¬ k < G.m) : wys G i k = 1 := by rw [wys, dif_neg (fun h => hi h.1), dif_neg hi, dif_neg hk]
/-- Induction from the end on. -/
theorem grd_ind (G : Grd) {P : Nat → Nat → Prop} (h : ∀ i k, (i < G.n → P (i + 1) k) → (k < G.m → P i (k + 1)) → (i < G.n → k < G.m → P (i + 1) (k + 1)) → P i k) (i k : Nat) : P i k := by
  have key : ∀ d i k, (G.n - i) + (G.m - k) ≤ d → P i k := by
    intro d
    induction d with
    | zero => intro i k hd; exact h i k (fun h => by omega) (fun h => by omega) (fun h => by omega)
    | succ d ih => intro i k hd; exact h i k (fun h => ih _ _ (by omega)) (fun h => ih _ _ (by omega)) (fun h h2 => ih _ _ (by omega))
  exact key _ i k (Nat.le_refl _)
structure GOk (G : Grd) (M : Int) : Prop where
  p : ∀ i k, 0 ≤ G.p i k ∧ G.p i k ≤ M
  g : ∀ i, 0 ≤ G.g i ∧ G.g i ≤ M
  h : ∀ k, 0 ≤ G.h k ∧ G.h k ≤ M
theorem rst_bd {G : Grd} {M : Int} (hG : GOk G M) (i k : Nat) : 0 ≤ rst G i k ∧ rst G i k ≤ M * ((G.n - i : Nat) + (G.m - k : Nat) : Nat) := by
  refine grd_ind G (P := fun i k => 0 ≤ rst G i k ∧ rst G i k ≤ M * ((G.n - i : Nat) + (G.m - k : Nat) : Nat)) (fun i k h1 h2 h3 => ?_) i k
  have m0 : 0 ≤ M := by have := hG.g 0; omega
  have q1 := hG.p i k
  have q2 := hG.g i
  have q3 := hG.h k
  by_cases hi : i < G.n
  · have e1 : M * ((G.n - i : Nat) + (G.m - k : Nat) : Nat) = M * ((G.n - (i + 1) : Nat) + (G.m - k : Nat) : Nat) + M := by
      rw [show (G.n - i) + (G.m - k) = (G.n - (i + 1)) + (G.m - k) + 1 by omega]; push_cast; rw [Int.mul_add]; omega
    have r1 := h1 hi
    by_cases hk : k < G.m
    · rw [rst_both hi hk]
      have r2 := h2 hk
      have r3 := h3 hi hk
      omega
    · rw [rst_fst hi hk]; omega
  · by_cases hk : k < G.m
    · have e1 : M * ((G.n - i : Nat) + (G.m - k : Nat) : Nat) = M * ((G.n - i : Nat) + (G.m - (k + 1) : Nat) : Nat) + M := by
        rw [show (G.n - i) + (G.m - k) = (G.n - i) + (G.m - (k + 1)) + 1 by omega]; push_cast; rw [Int.mul_add]; omega
      have r2 := h2 hk
      rw [rst_snd hi hk]; omega
    · rw [rst_none hi hk]
      exact ⟨Int.le_refl _, Int.mul_nonneg m0 (by omega)⟩
theorem addW_bd {t s x w : Int} (hs : 0 ≤ s ∧ s ≤ big) (hw : 0 ≤ w ∧ w ≤ big) : 0 ≤ addW t s x w ∧ addW t s x w ≤ big := by unfold addW big at *; split <;> omega
theorem wys_bd (G : Grd) (i k : Nat) : 1 ≤ wys G i k ∧ wys G i k ≤ big := by
  refine grd_ind G (P := fun i k => 1 ≤ wys G i k ∧ wys G i k ≤ big) (fun i k h1 h2 h3 => ?_) i k
  by_cases hi : i < G.n
  · have r1 := h1 hi
    by_cases hk : k < G.m
    · have r2 := h2 hk
      have r3 := h3 hi hk
      rw [wys_both hi hk, rst_both hi hk]
      generalize G.p i k + rst G (i + 1) (k + 1) = x
      generalize G.g i + rst G (i + 1) k = y
      generalize G.h k + rst G i (k + 1) = z
      unfold addW big at *
      (repeat' split) <;> omega
    · rw [wys_fst hi hk, rst_fst hi hk]; unfold addW big at *; rw [if_pos rfl]; omega
  · by_cases hk : k < G.m
    · have r2 := h2 hk
      rw [wys_snd hi hk, rst_snd hi hk]; unfold addW big at *; rw [if_pos rfl]; omega
    · rw [wys_none hi hk]; unfold big; omega
/-- What the program keeps while it goes through the moves: the least so far, in how many ways. -/
def stepW (G : Grd) (i k : Nat) (s : Int × Int) (j : Nat) (x : Mv) : Int × Int :=
  if j = 0 ∨ via G i k x < s.1 then (via G i k x, wys G (i + x.fst) (k + x.snd))
  else if via G i k x = s.1 then (s.1, min (s.2 + wys G (i + x.fst) (k + x.snd)) big) else s
def accW (G : Grd) (i k : Nat) : Nat → Int × Int
  | 0 => (0, 1)
  | j + 1 => match (mvs G i k)[j]? with
    | some x => stepW G i k (accW G i k j) j x
    | none => accW G i k j
theorem stepW_fst (G : Grd) (i k : Nat) (s : Int × Int) (j : Nat) (x : Mv) : (stepW G i k s j x).1 = if j = 0 then via G i k x else min s.1 (via G i k x) := by
  unfold stepW
  (repeat' split) <;> first | omega | (dsimp only; omega)
theorem stepW_snd (G : Grd) (i k : Nat) (s : Int × Int) (j : Nat) (x : Mv) : (stepW G i k s j x).2 = if j = 0 ∨ via G i k x < s.1 then wys G (i + x.fst) (k + x.snd) else if via G i k x = s.1 then min (s.2 + wys G (i + x.fst) (k + x.snd)) big else s.2 := by
  unfold stepW
  (repeat' split) <;> rfl
theorem accW_all (G : Grd) (i k : Nat) : accW G i k (mvs G i k).length = (rst G i k, wys G i k) := by
  by_cases hi : i < G.n
  · have w1 := wys_bd G (i + 1) k
    by_cases hk : k < G.m
    · have w2 := wys_bd G i (k + 1)
      have w3 := wys_bd G (i + 1) (k + 1)
      rw [mvs_both hi hk, rst_both hi hk, wys_both hi hk, rst_both hi hk]
      show accW G i k 3 = _
      simp only [accW, mvs_both hi hk, List.getElem?_cons_zero, List.getElem?_cons_succ]
      refine Prod.ext ?_ ?_
      · simp only [stepW_fst, via, Nat.add_zero, if_true, Nat.one_ne_zero, if_false, show ¬ (2 : Nat) = 0 by omega]
      · simp only [stepW_snd, stepW_fst, via, Nat.add_zero, if_true, true_or, Nat.one_ne_zero, if_false, show ¬ (2 : Nat) = 0 by omega, false_or]
        generalize G.p i k + rst G (i + 1) (k + 1) = x
        generalize G.g i + rst G (i + 1) k = y
        generalize G.h k + rst G i (k + 1) = z
        generalize wys G (i + 1) (k + 1) = a at *
        generalize wys G (i + 1) k = b at *
        generalize wys G i (k + 1) = c at *
        unfold addW big at *
        (repeat' split) <;> omega
    · rw [mvs_fst hi hk, rst_fst hi hk, wys_fst hi hk, rst_fst hi hk]
      show accW G i k 1 = _
      simp only [accW, mvs_fst hi hk, List.getElem?_cons_zero, stepW, via, Nat.add_zero, true_or, if_true]
      unfold addW big at *
      rw [if_pos rfl]
      refine Prod.ext rfl ?_
      dsimp only; omega
  · by_cases hk : k < G.m
    · have w2 := wys_bd G i (k + 1)
      rw [mvs_snd hi hk, rst_snd hi hk, wys_snd hi hk, rst_snd hi hk]
      show accW G i k 1 = _
      simp only [accW, mvs_snd hi hk, List.getElem?_cons_zero, stepW, via, Nat.add_zero, true_or, if_true]
      unfold addW big at *
      rw [if_pos rfl]
      refine Prod.ext rfl ?_
      dsimp only; omega
    · rw [mvs_none hi hk, rst_none hi hk, wys_none hi hk]; rfl
/-! ### Places, from the end on -/
def placesL (n m : Nat) : List (Nat × Nat) := (List.range (n + 1)).flatMap fun p => (List.range (m + 1)).map fun q => (n - p, m - q)
theorem block_get {α : Type} (f : Nat → Nat → α) (M : Nat) : ∀ N, ((List.range N).flatMap fun p => (List.range M).map (f p)).length = N * M ∧ ∀ p q, p < N → q < M → ((List.range N).flatMap fun p => (List.range M).map (f p))[p * M + q]? = some (f p q)
  | 0 => ⟨by simp, fun p q h => by omega⟩
  | N + 1 => by
    obtain ⟨h1, h2⟩ := block_get f M N
    rw [List.range_succ, List.flatMap_append]
    refine ⟨by rw [List.length_append, h1]; simp [Nat.succ_mul], fun p q hp hq => ?_⟩
    rcases Nat.lt_or_ge p N with h | h
    · have := Nat.mul_le_mul_right M (show p + 1 ≤ N from h)
      rw [Nat.succ_mul] at this
      rw [List.getElem?_append_left (by omega)]
      exact h2 p q h hq
    · obtain rfl : p = N := by omega
      rw [List.getElem?_append_right (by omega), h1, Nat.add_sub_cancel_left]
      simp [hq]
theorem placesL_len (n m : Nat) : (placesL n m).length = (n + 1) * (m + 1) := (block_get (fun p q => (n - p, m - q)) (m + 1) (n + 1)).1
theorem placesL_get {n m p q : Nat} (hp : p ≤ n) (hq : q ≤ m) : (placesL n m)[p * (m + 1) + q]? = some (n - p, m - q) := (block_get (fun p q => (n - p, m - q)) (m + 1) (n + 1)).2 p q (by omega) (by omega)
theorem placesL_at {n m j i k : Nat} (h : (placesL n m)[j]? = some (i, k)) : ∃ p q, p ≤ n ∧ q ≤ m ∧ j = p * (m + 1) + q ∧ i = n - p ∧ k = m - q := by
  have hj := (List.getElem?_eq_some_iff.1 h).1
  rw [placesL_len] at hj
  have h1 : j / (m + 1) ≤ n := by have := Nat.div_lt_of_lt_mul (show j < (m + 1) * (n + 1) by rw [Nat.mul_comm]; exact hj); omega
  have h2 : j % (m + 1) ≤ m := by have := Nat.mod_lt j (show 0 < m + 1 by omega); omega
  have e : j = j / (m + 1) * (m + 1) + j % (m + 1) := by rw [Nat.mul_comm]; exact (Nat.div_add_mod j (m + 1)).symm
  refine ⟨j / (m + 1), j % (m + 1), h1, h2, e, ?_⟩
  rw [e, placesL_get h1 h2] at h
  cases h
  exact ⟨rfl, rfl⟩
theorem placesL_done {n m j i k i' k' : Nat} (h : (placesL n m)[j]? = some (i, k)) (hi : i' ≤ n) (hk : k' ≤ m) (hlt : i < i' ∨ (i = i' ∧ k < k')) : (i', k') ∈ (placesL n m).take j := by
  obtain ⟨p, q, hp, hq, rfl, rfl, rfl⟩ := placesL_at h
  have hg := placesL_get (n := n) (m := m) (p := n - i') (q := m - k') (by omega) (by omega)
  rw [show n - (n - i') = i' by omega, show m - (m - k') = k' by omega] at hg
  refine List.mem_of_getElem? (i := (n - i') * (m + 1) + (m - k')) ?_
  rw [List.getElem?_take_of_lt, hg]
  rcases hlt with h1 | ⟨rfl, h1⟩
  · have := Nat.mul_le_mul_right (m + 1) (show n - i' + 1 ≤ p by omega)
    rw [Nat.succ_mul] at this
    omega
  · rw [show n - (n - p) = p by omega]; omega
/-- Of a table's numbers those that have been found. -/
def soFar (n m j : Nat) (f : Nat → Nat → Int) (i k : Nat) : Int := if (i, k) ∈ (placesL n m).take j then f i k else 0
theorem soFar_zero (n m : Nat) (f : Nat → Nat → Int) (i : Nat) : soFar n m 0 f i = fun _ => 0 := by funext k; unfold soFar; simp
theorem soFar_step {n m j i k : Nat} (h : (placesL n m)[j]? = some (i, k)) (f : Nat → Nat → Int) (i' k' : Nat) : soFar n m (j + 1) f i' k' = if i' = i ∧ k' = k then f i k else soFar n m j f i' k' := by
  unfold soFar
  rw [take_snoc _ _ _ h]
  by_cases e : i' = i ∧ k' = k
  · obtain ⟨rfl, rfl⟩ := e
    rw [if_pos (by simp), if_pos ⟨rfl, rfl⟩]
  · rw [if_neg e]
    congr 1
    rw [List.mem_append, List.mem_singleton, Prod.mk.injEq]
    simp [e]
theorem soFar_all {n m j i k : Nat} (hj : (placesL n m).length ≤ j) (f : Nat → Nat → Int) (hi : i ≤ n) (hk : k ≤ m) : soFar n m j f i k = f i k := by
  unfold soFar
  rw [List.take_of_length_le hj, if_pos]
  have := placesL_get (n := n) (m := m) (p := n - i) (q := m - k) (by omega) (by omega)
  rw [show n - (n - i) = i by omega, show m - (m - k) = k by omega] at this
  exact List.mem_of_getElem? this
theorem soFar_get {n m j i k i' k' : Nat} (h : (placesL n m)[j]? = some (i, k)) (f : Nat → Nat → Int) (hi : i' ≤ n) (hk : k' ≤ m) (hlt : i < i' ∨ (i = i' ∧ k < k')) : soFar n m j f i' k' = f i' k' := if_pos (placesL_done h hi hk hlt)
/-- A number is put into a table. -/
theorem rows_put {f g : Nat → Nat → Int} {tot i k gi : Nat} {x : Int} {ci : List Value} {M : List (Nat × List Value)} (hR : RowsOk f tot M) (hi : M[i]? = some (gi, ci)) (hg : ∀ i' k', g i' k' = if i' = i ∧ k' = k then x else f i' k') : RowsOk g tot (M.set i (gi, ci.set k (.int .i64 x))) := by
  intro r y hy
  rw [List.getElem?_set] at hy
  by_cases h1 : i = r
  · subst h1
    rw [if_pos rfl, if_pos (List.getElem?_eq_some_iff.1 hi).1] at hy
    cases hy
    dsimp only
    rw [show ci = _ from hR _ _ hi, valV_put]
    refine valV_ext fun q _ => ?_
    rw [hg]
    by_cases e : q = k
    · rw [if_pos e, if_pos ⟨rfl, e⟩]
    · rw [if_neg e, if_neg (fun h => e h.2)]
  · rw [if_neg h1] at hy
    rw [hR _ _ hy]
    refine valV_ext fun q _ => ?_
    rw [hg, if_neg (fun h => h1 h.1.symm)]
theorem accW_step {G : Grd} {i k j : Nat} {x : Mv} (h : (mvs G i k)[j]? = some x) : accW G i k (j + 1) = stepW G i k (accW G i k j) j x := by
  simp only [accW, h]
theorem accW_bd (G : Grd) (i k : Nat) : ∀ j, 0 ≤ (accW G i k j).2 ∧ (accW G i k j).2 ≤ big
  | 0 => by simp [accW, big]
  | j + 1 => by
    have ih := accW_bd G i k j
    cases h : (mvs G i k)[j]? with
    | none => simp only [accW, h]; exact ih
    | some x =>
      rw [accW_step h, stepW_snd]
      have hw := wys_bd G (i + x.fst) (k + x.snd)
      unfold big at *
      (repeat' split) <;> omega
theorem flat_get {α : Type} (cells : α → List Value) (sz : Nat) (hsz : ∀ t, (cells t).length = sz) : ∀ {l : List α} {k : Nat} {x : α}, l[k]? = some x → ∀ (j : Nat) u, (cells x)[j]? = some u → (l.flatMap cells)[k * sz + j]? = some u
  | y :: l, 0, x, hx, j, u, hu => by
    simp at hx; subst hx
    rw [List.flatMap_cons, Nat.zero_mul, Nat.zero_add, List.getElem?_append_left (List.getElem?_eq_some_iff.1 hu).1]
    exact hu
  | y :: l, k + 1, x, hx, j, u, hu => by
    have ih := flat_get cells sz hsz (l := l) (k := k) (by simpa using hx) j u hu
    rw [List.flatMap_cons, List.getElem?_append_right (by rw [hsz, Nat.succ_mul]; omega), hsz]
    rw [show (k + 1) * sz + j - sz = k * sz + j by rw [Nat.succ_mul]; omega]
    exact ih
/-- A table's rows. -/
def tabR (n m : Nat) (f : Nat → Nat → Int) : List (List Int) := (List.range (n + 1)).map fun i => (List.range (m + 1)).map fun k => f i k
theorem tabR_get {n m i : Nat} {f : Nat → Nat → Int} (h : i ≤ n) : (tabR n m f)[i]? = some ((List.range (m + 1)).map fun k => f i k) := by unfold tabR; rw [List.getElem?_map, List.getElem?_range (by omega)]; rfl
theorem tabR_cell {m k : Nat} {g : Nat → Int} (h : k ≤ m) : ((List.range (m + 1)).map g)[k]? = some (g k) := by rw [List.getElem?_map, List.getElem?_range (by omega)]; rfl
theorem tabR_length (n m : Nat) (f : Nat → Nat → Int) : (tabR n m f).length = n + 1 := by simp [tabR]
end Go.Proofs.YtmcgificpaeipaaGreatDoor
/- Pairs of sources: plain laws: parts that are joined. No program in sight. -/
namespace Go.Proofs.YtmcgificpaeipaaGreatDoor

theorem rst_le_g {G : Grd} {i k : Nat} (hi : i < G.n) : rst G i k ≤ G.g i + rst G (i + 1) k := by
  by_cases hk : k < G.m
  · rw [rst_both hi hk]; omega
  · rw [rst_fst hi hk]; omega
theorem rst_le_h {G : Grd} {i k : Nat} (hk : k < G.m) : rst G i k ≤ G.h k + rst G i (k + 1) := by
  by_cases hi : i < G.n
  · rw [rst_both hi hk]; omega
  · rw [rst_snd hi hk]; omega
theorem rst_le_p {G : Grd} {i k : Nat} (hi : i < G.n) (hk : k < G.m) : rst G i k ≤ G.p i k + rst G (i + 1) (k + 1) := by
  rw [rst_both hi hk]; omega
/-- A table's rest, by its own grid. -/
theorem rst_shift {G F : Grd} {m n : Nat} (hn : G.n = m + F.n) (hm : G.m = n + F.m) (hp : ∀ i k, i < F.n → k < F.m → G.p (m + i) (n + k) = F.p i k) (hg : ∀ i, i < F.n → G.g (m + i) = F.g i) (hh : ∀ k, k < F.m → G.h (n + k) = F.h k) (i k : Nat) :
    rst G (m + i) (n + k) = rst F i k := by
  refine grd_ind F (P := fun i k => rst G (m + i) (n + k) = rst F i k) (fun i k h1 h2 h3 => ?_) i k
  by_cases hi : i < F.n
  · have e1 := h1 hi
    by_cases hk : k < F.m
    · have e2 := h2 hk
      have e3 := h3 hi hk
      rw [rst_both (G := G) (by omega) (by omega), rst_both hi hk, hp i k hi hk, hg i hi, hh k hk, ← e1, ← e2, ← e3]; rfl
    · rw [rst_fst (G := G) (by omega) (by omega), rst_fst hi hk, hg i hi, ← e1]; rfl
  · by_cases hk : k < F.m
    · have e2 := h2 hk
      rw [rst_snd (G := G) (by omega) (by omega), rst_snd hi hk, hh k hk, ← e2]; rfl
    · rw [rst_none (G := G) (by omega) (by omega), rst_none hi hk]
/-- A beginning, and what is behind it. -/
theorem rst_begin {G F : Grd} (hn : F.n ≤ G.n) (hm : F.m ≤ G.m) (hp : ∀ i k, i < F.n → k < F.m → G.p i k = F.p i k) (hg : ∀ i, i < F.n → G.g i = F.g i) (hh : ∀ k, k < F.m → G.h k = F.h k) (i k : Nat) (hi : i ≤ F.n) (hk : k ≤ F.m) :
    rst G i k ≤ rst F i k + rst G F.n F.m := by
  revert hi hk
  refine grd_ind F (P := fun i k => i ≤ F.n → k ≤ F.m → rst G i k ≤ rst F i k + rst G F.n F.m) (fun i k h1 h2 h3 hi hk => ?_) i k
  by_cases hi2 : i < F.n
  · have e1 := h1 hi2 hi2 hk
    have q1 := rst_le_g (G := G) (i := i) (k := k) (by omega)
    rw [hg i hi2] at q1
    by_cases hk2 : k < F.m
    · have e2 := h2 hk2 hi hk2
      have e3 := h3 hi2 hk2 hi2 hk2
      have q2 := rst_le_h (G := G) (i := i) (k := k) (by omega)
      have q3 := rst_le_p (G := G) (i := i) (k := k) (by omega) (by omega)
      rw [hh k hk2] at q2
      rw [hp i k hi2 hk2] at q3
      rw [rst_both hi2 hk2]; omega
    · rw [rst_fst hi2 hk2]; omega
  · by_cases hk2 : k < F.m
    · have e2 := h2 hk2 hi hk2
      have q2 := rst_le_h (G := G) (i := i) (k := k) (by omega)
      rw [hh k hk2] at q2
      rw [rst_snd hi2 hk2]; omega
    · rw [rst_none hi2 hk2, show i = F.n by omega, show k = F.m by omega]; omega
end Go.Proofs.YtmcgificpaeipaaGreatDoor
/- The engine: many blocks as one entry. It speaks of any program. -/
namespace Go.Proofs.YtmcgificpaeipaaGreatDoor
open Go.RowKit Go.Shelf

def lookB : List (Nat × List Value) → Nat → Option (List Value)
  | [], _ => none
  | (g, cs) :: l, b => if b = g then some cs else lookB l b
theorem lookB_none {l : List (Nat × List Value)} {b : Nat} : lookB l b = none ↔ b ∉ l.map Prod.fst := by
  induction l with
  | nil => simp [lookB]
  | cons x l ih =>
    obtain ⟨g, cs⟩ := x
    unfold lookB
    by_cases h : b = g
    · simp [h]
    · simp [h, ih]
theorem lookB_get {l : List (Nat × List Value)} (hn : (l.map Prod.fst).Nodup) {k g : Nat} {cs : List Value} (h : l[k]? = some (g, cs)) : lookB l g = some cs := by
  induction l generalizing k with
  | nil => simp at h
  | cons x l ih =>
    obtain ⟨g', cs'⟩ := x
    simp only [List.map_cons, List.nodup_cons] at hn
    cases k with
    | zero =>
      simp at h
      obtain ⟨rfl, rfl⟩ := h
      simp [lookB]
    | succ k =>
      simp only [List.getElem?_cons_succ] at h
      unfold lookB
      have hne : g ≠ g' := fun e => hn.1 (by rw [← e]; exact List.mem_map.2 ⟨(g, cs), List.mem_of_getElem? h, rfl⟩)
      rw [if_neg hne]
      exact ih hn.2 h
theorem lookB_append {l m : List (Nat × List Value)} {b : Nat} : lookB (l ++ m) b = (lookB l b).or (lookB m b) := by
  induction l with
  | nil => simp [lookB]
  | cons x l ih =>
    obtain ⟨g, cs⟩ := x
    simp only [List.cons_append, lookB]
    split
    · rfl
    · exact ih
/-- Many blocks of cells of one type. -/
def blks (t : TypeId) (l : List (Nat × List Value)) : HA := fun f => (l.map Prod.fst).Nodup ∧ ∀ b, f b = (lookB l b).map fun cs => Obj.cells cs.toArray t (0, 0)
theorem blks_nil (t : TypeId) : blks t [] (fun _ => none) := ⟨List.nodup_nil, fun _ => rfl⟩
/-- One more. -/
theorem blks_snoc {t : TypeId} {l : List (Nat × List Value)} {g : Nat} {cs : List Value} {H : List HA} : Hle (blk g cs t :: blks t l :: H) (blks t (l ++ [(g, cs)]) :: H) := by
  rintro n0 w ⟨F, h1, h2, h3⟩
  have hA : F 0 = one g (.cells cs.toArray t (0, 0)) := h1 0 _ rfl
  obtain ⟨hB1, hB2⟩ := h1 1 _ rfl
  have hg : lookB l g = none := by
    have := h3 0 1 g (by simp) (by simp) (by omega)
    rw [hA] at this
    rcases this with h | h
    · simp [one] at h
    · rw [hB2] at h
      cases hq : lookB l g with
      | none => rfl
      | some cs => rw [hq] at h; cases h
  have key : ∀ b, (lookB (l ++ [(g, cs)]) b).map (fun cs => Obj.cells cs.toArray t (0, 0)) = (F 1 b).or (F 0 b) := by
    intro b
    rw [lookB_append, hB2 b, hA]
    cases hq : lookB l b with
    | some x => simp
    | none =>
      simp only [Option.none_or, Option.map_none, lookB, one]
      split <;> simp
  refine ⟨fun i => match i with | 0 => fun b => (F 1 b).or (F 0 b) | i + 1 => F (i + 2), fun i A hi => ?_, fun i b o hi hf => ?_, fun i j b hi hj hne => ?_⟩
  · cases i with
    | zero =>
      simp at hi; subst hi
      refine ⟨?_, fun b => (key b).symm⟩
      rw [List.map_append, List.nodup_append]
      refine ⟨hB1, by simp, ?_⟩
      intro a ha b hb
      simp at hb
      subst hb
      intro e
      subst e
      exact absurd ha (lookB_none.1 hg)
    | succ i => exact h1 (i + 2) A (by simpa using hi)
  · cases i with
    | zero =>
      dsimp only at hf
      cases hq : F 1 b with
      | some x => rw [hq] at hf; simp at hf; subst hf; exact h2 1 b x (by simp) hq
      | none => rw [hq] at hf; simp at hf; exact h2 0 b o (by simp) hf
    | succ i => exact h2 (i + 2) b o (by simp at hi ⊢; omega) hf
  · have both : ∀ j, j + 2 < (blk g cs t :: blks t l :: H).length → ((F 1 b).or (F 0 b) = none ∨ F (j + 2) b = none) := by
      intro j hj
      rcases h3 0 (j + 2) b (by simp) hj (by omega) with h | h
      · rcases h3 1 (j + 2) b (by simp) hj (by omega) with h' | h'
        · left; rw [h, h']; rfl
        · exact .inr h'
      · exact .inr h
    cases i with
    | zero =>
      cases j with
      | zero => omega
      | succ j => exact both j (by simp at hj ⊢; omega)
    | succ i =>
      cases j with
      | zero => exact (both i (by simp at hi ⊢; omega)).symm
      | succ j => exact h3 (i + 2) (j + 2) b (by simp at hi ⊢; omega) (by simp at hj ⊢; omega) (by omega)
class FocusM (H : List HA) (t : outParam TypeId) (l : List (Nat × List Value)) : Prop where
  at_ : ∃ i : Nat, H[i]? = some (blks t l)
instance FocusM.head (H : List HA) (t : TypeId) (l : List (Nat × List Value)) : FocusM (blks t l :: H) t l := ⟨0, rfl⟩
instance FocusM.tail (A0 : HA) (H : List HA) (t : TypeId) (l : List (Nat × List Value)) [h : FocusM H t l] : FocusM (A0 :: H) t l := ⟨by obtain ⟨i, h1⟩ := h.at_; exact ⟨i + 1, by simpa using h1⟩⟩
theorem Cls.blks {w0 w : World} {H : List HA} {i : Nat} {t : TypeId} {l : List (Nat × List Value)} {k g : Nat} {cs : List Value} (hw : Cls w0 w H) (hi : H[i]? = some (blks t l)) (hk : l[k]? = some (g, cs)) : w.heap[g]? = some (.cells cs.toArray t (0, 0)) := by
  obtain ⟨F, h1, h2, h3⟩ := hw.sep
  have hil : i < H.length := (List.getElem?_eq_some_iff.1 hi).1
  obtain ⟨hn, hf⟩ := h1 i _ hi
  exact (h2 i g _ hil (by rw [hf, lookB_get hn hk]; rfl)).2
theorem rdM {C : Cx} {H : List HA} {t : TypeId} {l : List (Nat × List Value)} [hf : FocusM H t l] {k g off : Nat} {cs vs : List Value} (hk : l[k]? = some (g, cs)) (hv : ∀ j u, vs[j]? = some u → cs[off + j]? = some u) : ∀ w, Cls C.w0 w H → RdC w g off vs := by
  intro w hw j u hu
  obtain ⟨i, hi⟩ := hf.at_
  rw [cell_of_row w g (off + j) cs.toArray t (0, 0) (hw.blks hi hk)]
  simpa using hv j u hu
theorem T_nilblks {C : Cx} {k : List It} {env : Env} {ec : EnvC} {H : List HA} (t : TypeId) (h : T C k env ec (blks t [] :: H)) : T C k env ec H := by
  refine T.mk fun a w ha hw => ?_
  refine h a w ha ⟨hw.below, ?_⟩
  obtain ⟨F, h1, h2, h3⟩ := hw.sep
  refine ⟨fun i => match i with | 0 => fun _ => none | i + 1 => F i, fun i B hi => ?_, fun i b o hi hf => ?_, fun i j b hi hj hne => ?_⟩
  · cases i with
    | zero => simp at hi; subst hi; exact blks_nil t
    | succ i => exact h1 i B (by simpa using hi)
  · cases i with
    | zero => cases hf
    | succ i => exact h2 i b o (by simpa using hi) hf
  · cases i with
    | zero => exact .inl rfl
    | succ i =>
      cases j with
      | zero => exact .inr rfl
      | succ j => exact h3 i j b (by simpa using hi) (by simpa using hj) (by omega)
end Go.Proofs.YtmcgificpaeipaaGreatDoor
/- The engine: short words: the driver of straight-line code as default arguments; loops and meetings that keep what is not named. It speaks of any program. -/
namespace Go.Proofs.YtmcgificpaeipaaGreatDoor
open Go.RowKit Go.Shelf

/-! ## Aggregates that are built -/
def fillL (pl : List (Nat × Nat)) (cs : List Value) : List (Nat × Value) → Option (List Value)
  | [] => some cs
  | (i, v) :: r => match pl[i]? with
    | none => none
    | some (off, size) => cond (Nat.beq v.cells.size size && Nat.ble (off + size) cs.length) (fillL pl (setL cs off v.cells.toList) r) none
theorem foldl_setL : ∀ (us cs : List Value) (off n : Nat), (us.zipIdx n).foldl (fun (cs : Array Value) (x : Value × Nat) => cs.setIfInBounds (off + x.2) x.1) cs.toArray = (setL cs (off + n) us).toArray
  | [], cs, off, n => rfl
  | u :: us, cs, off, n => by
    simp only [List.zipIdx_cons, List.foldl_cons, List.setIfInBounds_toArray, setL]
    exact foldl_setL us (cs.set (off + n) u) off (n + 1)
theorem fillL_spec {pl : List (Nat × Nat)} : ∀ {ps : List (Nat × Value)} {cs cs' : List Value}, fillL pl cs ps = some cs' → Instr.fill (fun i => pl.toArray[i]?) cs.toArray ps = some cs'.toArray
  | [], cs, cs', h => by cases h; rfl
  | (i, v) :: r, cs, cs', h => by
    unfold fillL at h
    split at h
    · cases h
    · rename_i off size hi
      cases hc : (Nat.beq v.cells.size size && Nat.ble (off + size) cs.length) with
      | false => rw [hc] at h; cases h
      | true =>
        rw [hc] at h
        simp only [cond_true] at h
        simp only [Bool.and_eq_true] at hc
        have h1 : v.cells.size = size := Nat.eq_of_beq_eq_true hc.1
        have h2 : off + size ≤ cs.length := Nat.le_of_ble_eq_true hc.2
        have ih := fillL_spec h
        unfold Instr.fill
        simp only [List.getElem?_toArray, hi]
        rw [if_neg (by simp [h1]; omega)]
        have e := foldl_setL v.cells.toList cs off 0
        rw [← Array.foldl_toList, Array.toList_zipIdx]
        rw [e, Nat.add_zero]
        simpa only [List.getElem?_toArray] using ih
def placesOf (S : Sig) : List (TypeId × Nat) → Option (List (Nat × Nat))
  | [] => some []
  | (t, off) :: l => match S.ty t with
    | some ⟨_, sz, _, _⟩ => match placesOf S l with
      | some r => some ((off, sz) :: r)
      | none => none
    | none => none
theorem placesOf_spec {S : Sig} : ∀ {fs : List Field} {pl : List (Nat × Nat)}, placesOf S (fs.map fun f => (f.type, f.offset)) = some pl → fs.mapM (fun f => (S.P.info? f.type).map fun i => (f.offset, i.size)) = some pl
  | [], pl, h => by cases h; rfl
  | f :: fs, pl, h => by
    simp only [List.map_cons, placesOf] at h
    split at h
    · rename_i d sz b z ht
      split at h
      · rename_i r hr
        cases h
        obtain ⟨x, hx, h1, _⟩ := (Sig.tyOk ht).info'
        have ih := placesOf_spec hr
        simp only [List.mapM_cons, hx, Option.map_some, ih]
        simp [h1]
      · cases h
    · cases h
def evPartsG (env : Env) (ec : EnvC) (G : GId) : List (Nat × Operand) → Option (List (Nat × Value))
  | [] => some []
  | (i, x) :: l => match evX env ec G x with
    | some v => match evPartsG env ec G l with
      | some vs => some ((i, v) :: vs)
      | none => none
    | none => none
theorem evPartsG_spec {N : FK} {all : Array Oper} {env : Env} {ec : EnvC} {a : Act} {G : GId} (ha : Agrees N all env ec a) (hG : Holds all a G) : ∀ {l : List (Nat × Operand)} {vs : List (Nat × Value)}, evPartsG env ec G l = some vs → l.map (fun (i, x) => (i, a.eval x)) = vs
  | [], vs, h => by cases h; rfl
  | (i, x) :: l, vs, h => by
    unfold evPartsG at h
    split at h
    · rename_i v hv
      split at h
      · rename_i us hus
        cases h
        rw [List.map_cons, evPartsG_spec ha hG hus]
        simp only [evX_spec ha hG hv]
      · cases h
    · cases h
def arrPl (sz : Nat) : Nat → Nat → List (Nat × Nat)
  | 0, _ => []
  | n + 1, i => (i * sz, sz) :: arrPl sz n (i + 1)
def evBd (S : Sig) (env : Env) (ec : EnvC) (G : GId) (o : Oper) : Option (List Value) :=
  match o.op with
  | .build t ps => match S.ty t, evPartsG env ec G ps.toList with
    | some ⟨.struct fs, _, _, z⟩, some vs => match placesOf S fs with
      | some pl => fillL pl z.cells.toList vs
      | none => none
    | _, _ => none
  | _ => none
theorem evBd_spec {S : Sig} {N : FK} {all : Array Oper} {env : Env} {ec : EnvC} {G : GId} {o : Oper} {a : Act} (ha : Agrees N all env ec a) (hG : Holds all a G) {cs : List Value}
    (h : evBd S env ec G o = some cs) (w : World) : (execOp a.eval o).run S.P w = .ok (.value (.agg cs.toArray)) w := by
  obtain ⟨dst, op, ty, pos, aft, gd⟩ := o
  unfold evBd at h
  dsimp only at h
  split at h
  · rename_i t ps
    split at h
    · rename_i fs q1 q2 z vs ht hvs
      split at h
      · rename_i pl hpl
        have hk := Sig.tyOk ht
        obtain ⟨fa, hfa, hfs⟩ := hk.fits
        have hz := hk.zeroValue w
        dsimp only at hz
        rw [← hfs] at hpl
        have hpl2 := run_places (P := S.P) w fa.toList pl (placesOf_spec hpl)
        have hpl3 : (fa.mapM fun f => do pure (f.offset, ← sizeOf f.type) : Sem (Array (Nat × Nat))).run S.P w = .ok pl.toArray w := by
          rw [Array.mapM_eq_mapM_toList]
          have h3 : (List.toArray <$> List.mapM (fun f => do pure (f.offset, ← sizeOf f.type)) fa.toList : Sem (Array (Nat × Nat))) = (do let l ← List.mapM (fun f => do pure (f.offset, ← sizeOf f.type)) fa.toList; pure l.toArray) := map_eq_pure_bind _ _
          rw [h3]
          have h4 : (fun f : Field => Prod.mk f.offset <$> sizeOf f.type) = (fun f : Field => (do pure (f.offset, ← sizeOf f.type) : Sem (Nat × Nat))) := by
            funext f; exact map_eq_pure_bind _ _
          rw [h4] at hpl2
          simp only [Sem.run_bind, hpl2, Result.andThen_ok, Sem.run_pure]
        have hparts : (Array.map (fun x : Nat × Operand => (x.1, a.eval x.2)) ps).toList = vs := by rw [Array.toList_map]; exact evPartsG_spec ha hG hvs
        have hf := fillL_spec h
        have hf' : Instr.fill (fun i => pl.toArray[i]?) z.cells vs = some cs.toArray := hf
        simp only [execOp, Instr.build, Sem.run_bind, hz, Result.andThen_ok, run_underlying hfa, hpl3]
        rw [hparts, hf']
        rfl
      · cases h
    · cases h
  · cases h
theorem Val.build {C : Cx} {all : Array Oper} {o : Oper} {env : Env} {ec : EnvC} {Hs : List HA} {G : GId} {cs : List Value} (hv : evBd C.S env ec G o = some cs) : Val C all o env ec Hs G (.agg cs.toArray) := fun _ w ha _ hH => evBd_spec ha hH hv w
/-- Two structs that are compared. -/
def evQ (env : Env) (ec : EnvC) (G : GId) (o : Oper) : Option (Bool × TypeId × Array Value × Array Value) :=
  match o.op with
  | .binOp op t x y _ => match op, evX env ec G x, evX env ec G y with
    | .eql, some (.agg xs), some (.agg ys) => some (true, t, xs, ys)
    | .neq, some (.agg xs), some (.agg ys) => some (false, t, xs, ys)
    | _, _, _ => none
  | _ => none
theorem Val.eqS {C : Cx} {all : Array Oper} {o : Oper} {env : Env} {ec : EnvC} {Hs : List HA} {G : GId} {p : Bool} {t : TypeId} {xs ys : Array Value} {r : Bool} (hv : evQ env ec G o = some (p, t, xs, ys))
    (he : ∀ w, (Op.equalIn 10000 t (.agg xs) (.agg ys)).run C.S.P w = .ok r w) (hg : C.S.P.eqGuardType C.S.P.depth t = false) : Val C all o env ec Hs G (.bool (cond p r (!r))) := by
  intro a w ha _ hH
  obtain ⟨dst, op, ty, pos, aft, gd⟩ := o
  unfold evQ at hv
  dsimp only at hv
  split at hv
  · rename_i op t' x y t2
    split at hv
    · rename_i xs' ys' hx hy
      cases hv
      have e1 := evX_spec ha hH hx
      have e2 := evX_spec ha hH hy
      simp only [execOp, e1, e2]
      rw [Sem.run_bind, Sem.run_bind, run_eqGuard_agg w _ _ _ _ _ _ hg, Result.andThen_ok, run_eql_struct, he w]
      rfl
    · rename_i xs' ys' hx hy
      cases hv
      have e1 := evX_spec ha hH hx
      have e2 := evX_spec ha hH hy
      simp only [execOp, e1, e2]
      rw [Sem.run_bind, Sem.run_bind, run_eqGuard_agg w _ _ _ _ _ _ hg, Result.andThen_ok, run_neq_struct, he w]
      rfl
    · cases hv
  · cases hv

theorem RdC.at {w : World} {b off i : Nat} {vs : List Value} {u : Value} (h : RdC w b off vs) (hv : vs[i]? = some u) : RdC w b (off + i) [u] := by
  intro j x hx
  cases j with
  | zero => simp at hx; subst hx; exact h i u hv
  | succ j => simp at hx
theorem RdC.at2 {w : World} {b off i j : Nat} {vs : List Value} {u : Value} (h : RdC w b off vs) (hv : vs[i + j]? = some u) : RdC w b (off + i + j) [u] := by
  rw [Nat.add_assoc]; exact h.at hv
theorem Hle.cons {A : HA} {H K : List HA} (h : ∃ p : Nat → Nat, (∀ (i : Nat) (B : HA), K[i]? = some B → H[p i]? = some B) ∧ ∀ i j, i < K.length → j < K.length → i ≠ j → p i ≠ p j) : ∃ p : Nat → Nat, (∀ (i : Nat) (B : HA), (A :: K)[i]? = some B → (A :: H)[p i]? = some B) ∧ ∀ i j, i < (A :: K).length → j < (A :: K).length → i ≠ j → p i ≠ p j := by
  obtain ⟨p, h1, h2⟩ := h
  refine ⟨fun i => match i with | 0 => 0 | i + 1 => p i + 1, fun i B hi => ?_, fun i j hi hj hne => ?_⟩
  · cases i with
    | zero => simpa using hi
    | succ i => simpa using h1 i B (by simpa using hi)
  · cases i <;> cases j <;> dsimp only <;> try omega
    rename_i i j
    have := h2 i j (by simpa using hi) (by simpa using hj) (by omega)
    omega
/-- Some of the entries, in their order. -/
class SubP (H K : List HA) : Prop where
  at_ : ∃ p : Nat → Nat, (∀ (i : Nat) (B : HA), K[i]? = some B → H[p i]? = some B) ∧ ∀ i j, i < K.length → j < K.length → i ≠ j → p i ≠ p j
instance SubP.nil (H : List HA) : SubP H [] := ⟨id, fun i B h => by simp at h, fun i j h => by simp at h⟩
instance (priority := low) SubP.drop (A : HA) (H K : List HA) [h : SubP H K] : SubP (A :: H) K := ⟨by
  obtain ⟨p, h1, h2⟩ := h.at_
  exact ⟨fun i => p i + 1, fun i B hi => by simpa using h1 i B hi, fun i j hi hj hne => by have := h2 i j hi hj hne; dsimp only; omega⟩⟩
instance SubP.keep (A : HA) (H K : List HA) [h : SubP H K] : SubP (A :: H) (A :: K) := ⟨Hle.cons h.at_⟩
theorem Hle.sub {H K : List HA} [h : SubP H K] : Hle H K := by
  obtain ⟨p, h1, h2⟩ := h.at_
  exact Hle.pick p h1 h2
/-! ## The order in which a region's operations are taken -/
def nums : List Nat := 0 :: 1 :: 2 :: 3 :: 4 :: 5 :: 6 :: 7 :: 8 :: 9 :: 10 :: 11 :: 12 :: 13 :: 14 :: 15 :: 16 :: 17 :: 18 :: 19 :: 20 :: 21 :: 22 :: 23 :: 24 :: 25 :: 26 :: 27 :: 28 :: 29 :: 30 :: 31 :: 32 :: 33 :: 34 :: 35 :: 36 :: 37 :: 38 :: 39 :: 40 :: 41 :: 42 :: 43 :: 44 :: 45 :: 46 :: 47 :: 48 :: 49 :: 50 :: 51 :: 52 :: 53 :: 54 :: 55 :: 56 :: 57 :: 58 :: 59 :: 60 :: 61 :: 62 :: 63 :: 64 :: 65 :: 66 :: 67 :: 68 :: 69 :: 70 :: 71 :: 72 :: 73 :: 74 :: 75 :: 76 :: 77 :: 78 :: 79 :: 80 :: 81 :: 82 :: 83 :: 84 :: 85 :: 86 :: 87 :: 88 :: 89 :: 90 :: 91 :: 92 :: 93 :: 94 :: 95 :: 96 :: 97 :: 98 :: 99 :: 100 :: 101 :: 102 :: 103 :: 104 :: 105 :: 106 :: 107 :: 108 :: 109 :: 110 :: 111 :: 112 :: 113 :: 114 :: 115 :: 116 :: 117 :: 118 :: 119 :: 120 :: 121 :: 122 :: 123 :: 124 :: 125 :: 126 :: 127 :: 128 :: 129 :: []
def isNum (x : Nat) : List Nat → Bool
  | [] => false
  | y :: l => Nat.beq x y || isNum x l
def bindsA (e : Edge) : Bool := match e.ground with
  | .textOnly _ => false
  | .gcOnly _ => false
  | _ => true
/-- The numbers, as they stand. -/
def ordL : List Nat → List Oper → List Nat
  | n :: ns, _ :: os => n :: ordL ns os
  | _, _ => []
/-- None of what it waits for is still to come. -/
def freeL (rem : List (Nat × Oper)) : List Edge → Bool
  | [] => true
  | e :: l => (cond (bindsA e) (!(isNum e.on (rem.map Prod.fst))) true) && freeL rem l
def zipN : List Nat → List Oper → List (Nat × Oper)
  | n :: ns, o :: os => (n, o) :: zipN ns os
  | _, _ => []
def pickV (rem : List (Nat × Oper)) : List (Nat × Oper) → Option Nat
  | (n, o) :: l => cond (quietO o.op && freeL rem o.after.toList) (some n) (pickV rem l)
  | [] => none
def pickC (rem : List (Nat × Oper)) : List (Nat × Oper) → Option Nat
  | (n, o) :: l => cond (freeL rem o.after.toList) (some n) (pickC rem l)
  | [] => none
def dropN (i : Nat) : List (Nat × Oper) → List (Nat × Oper)
  | (n, o) :: l => cond (Nat.beq n i) l ((n, o) :: dropN i l)
  | [] => []
/-- What turns nothing comes first. -/
def ordS : Nat → List (Nat × Oper) → List Nat
  | f + 1, rem => match pickV rem rem with
    | some i => i :: ordS f (dropN i rem)
    | none => match pickC rem rem with
      | some i => i :: ordS f (dropN i rem)
      | none => []
  | 0, _ => []
/-- The first operation that turns something that is there. -/
def effZ : List (Nat × Oper) → Nat
  | (n, o) :: l => match o.op with
    | .store _ _ _ => n
    | .call { callee := .builtin .append, args := _, argTypes := _ } => n
    | _ => effZ l
  | [] => 1000
section
variable {C : Cx} {all : Array Oper} {o : Oper} {rest : List Oper} {k : List It} {env : Env} {ec : EnvC} {H Hs : List HA} {d : Nat} {v : Value} {done ord : List Nat} {G : GId} {z : Nat} {i : Nat}
theorem chkR_cons {all : Array Oper} {z i : Nat} {done ord : List Nat} (h : chkR all z done (i :: ord) = true) : chkR all z (i :: done) ord = true ∧ noDef all = true ∧ Region.noSelect all = true ∧ ∃ o, all[i]? = some o ∧
    ((quietO o.op = true ∧ Region.free .any all (lst all done) i = true ∧ (Region.ready .any all (lst all done)).contains i = true ∧ waits .any all z i = true ∧ live z (lst all done) = true) ∨ (quietO o.op = false ∧ Region.ready .any all (lst all done) = [i])) := by
  simp only [chkR, chkOrd, Bool.and_eq_true] at h
  obtain ⟨h1, h2, h3, h4⟩ := h
  refine ⟨by simp only [chkR, Bool.and_eq_true]; exact ⟨h1, h2, h4⟩, h1, h2, ?_⟩
  cases ho : all[i]? with
  | none => rw [ho] at h3; cases h3
  | some o =>
    rw [ho] at h3
    simp only at h3
    cases hq : quietO o.op with
    | true => rw [hq] at h3; simp only [cond_true, Bool.and_eq_true] at h3; exact ⟨o, rfl, .inl ⟨hq, h3.1, h3.2.1, h3.2.2.1, h3.2.2.2⟩⟩
    | false => rw [hq] at h3; simp only [cond_false, decide_eq_true_eq] at h3; exact ⟨o, rfl, .inr ⟨hq, h3⟩⟩
/-- The region begins. -/
theorem rs0 {id : Nat} (z : Nat) (ord : List Nat) (hn : Nat.beq all.size ord.length = true) (hc : chkR all z [] ord = true) (h : T C (.run all [] ord H z :: k) env [] H) : T C (.code (.region id all true) :: k) env ec H := by
  refine T.mk fun a w ha hw => ?_
  have := h a _ ha.plain hw.drew hc
  have e : all.size = ord.length := Nat.eq_of_beq_eq_true hn
  rw [← e] at this
  exact wpIn_region_heldR C.S.mixed this
/-- .. with what stays as it is all through it. -/
theorem rsH {id : Nat} (Hs : List HA) (z : Nat) (ord : List Nat) (h : T C (.run all [] ord Hs z :: k) env [] H) (hn : Nat.beq all.size ord.length = true := by exact rfl) (hc : chkR all z [] ord = true := by decide +kernel) : T C (.code (.region id all true) :: k) env ec H := by
  refine T.mk fun a w ha hw => ?_
  have := h a _ ha.plain hw.drew hc
  have e : all.size = ord.length := Nat.eq_of_beq_eq_true hn
  rw [← e] at this
  exact wpIn_region_heldR C.S.mixed this
theorem rsL {id : Nat} (hn : Nat.beq all.size (ordL nums all.toList).length = true) (hc : chkR all (effZ (zipN nums all.toList)) [] (ordL nums all.toList) = true) (h : T C (.run all [] (ordL nums all.toList) H (effZ (zipN nums all.toList)) :: k) env [] H) : T C (.code (.region id all true) :: k) env ec H := rs0 _ _ hn hc h
theorem rsS {id : Nat} (hn : Nat.beq all.size (ordS 130 (zipN nums all.toList)).length = true) (hc : chkR all (effZ (zipN nums all.toList)) [] (ordS 130 (zipN nums all.toList)) = true) (h : T C (.run all [] (ordS 130 (zipN nums all.toList)) H (effZ (zipN nums all.toList)) :: k) env [] H) : T C (.code (.region id all true) :: k) env ec H := rs0 _ _ hn hc h
theorem re (hord : ord = []) (h : T C (nf 60 k) env [] H) : T C (.run all done ord Hs z :: k) env ec H := by
  refine T.mk fun a w ha hw hc => ?_
  subst hord
  simp only [chkR, chkOrd, Bool.and_eq_true, List.isEmpty_iff] at hc
  exact wpAnyHR_done hc.2.2 (nf_spec (n := 60) (h a w ha.plain hw)) _
/-- One that turns nothing is taken first. -/
theorem rv (hi : all[i]? = some o) (hq : quietO o.op = true) (hg : gOf all env ec o = some []) (hv : Val C all o env ec Hs [] v) (hd : o.dst = some d) (hN : Nat.blt d C.N.n = true) (hs : safeC all d ec = true)
    (h : T C (.run all (i :: done) ord Hs z :: k) ((d, v) :: env) ec H) (hle : Hle H Hs := by first | exact Hle.refl _ | exact Hle.none _ | exact Hle.append_right _ | exact Hle.sub) : T C (.run all done (i :: ord) Hs z :: k) env ec H := by
  refine T.mk fun a w ha hw hc => ?_
  obtain ⟨hc', hnd, hns, o', hi', hcase⟩ := chkR_cons hc
  rw [hi] at hi'; cases hi'
  obtain ⟨_, hf, hr, hz, hlv⟩ := hcase.resolve_right (fun h => by rw [hq] at h; cases h.1)
  have hwn := (wanted_iff ha hg).2 (Holds.nil _ _)
  refine wpAnyHR_take hnd hi hns hf hr hz hlv (fun c a w q => q) (.inl ⟨hwn, fun w' hw' => hv a w' ha hw' (Holds.nil _ _)⟩) (hw.le hle) ?_
  rw [hd]
  exact h _ w (ha.put hN hs) hw hc'
theorem rg (hi : all[i]? = some o) (hq : quietO o.op = true) (hg : gOf all env ec o = some G) (hv : Val C all o env ec Hs G v) (hd : o.dst = some d) (hN : Nat.blt d C.N.n = true) (hs : safeC all d ec = true) (hsG : safeG all d G = true) (hl : lookE env d = none)
    (h : T C (.run all (i :: done) ord Hs z :: k) env ((d, (G, v)) :: ec) H) (hle : Hle H Hs := by first | exact Hle.refl _ | exact Hle.none _ | exact Hle.append_right _ | exact Hle.sub) : T C (.run all done (i :: ord) Hs z :: k) env ec H := by
  refine T.mk fun a w ha hw hc => ?_
  obtain ⟨hc', hnd, hns, o', hi', hcase⟩ := chkR_cons hc
  rw [hi] at hi'; cases hi'
  obtain ⟨_, hf, hr, hz, hlv⟩ := hcase.resolve_right (fun h => by rw [hq] at h; cases h.1)
  by_cases hH : Holds all a G
  · have hwn := (wanted_iff ha hg).2 hH
    refine wpAnyHR_take hnd hi hns hf hr hz hlv (fun c a w q => q) (.inl ⟨hwn, fun w' hw' => hv a w' ha hw' hH⟩) (hw.le hle) ?_
    rw [hd]
    exact h _ w (ha.putC hN hs hsG hl (fun _ => rfl) (fun hh => absurd hH hh)) hw hc'
  · have hwn : Region.wanted o (yielded all a.tmps) = false := by
      cases hq : Region.wanted o (yielded all a.tmps) with
      | false => rfl
      | true => exact absurd ((wanted_iff ha hg).1 hq) hH
    refine wpAnyHR_take hnd hi hns hf hr hz hlv (fun c a w q => q) (.inr ⟨hwn, rfl⟩) (hw.le hle) ?_
    rw [hd]
    exact h _ w (ha.putC hN hs hsG hl (fun hh => absurd hh hH) (fun _ => rfl)) hw hc'
/-- One that is the only one that can come up. -/
theorem ro (hi : all[i]? = some o) (hq : quietO o.op = false)
    (h : OpT C all o env ec H (fun env' ec' H' => (live z (lst all (i :: done)) = true → Hle H' Hs) ∧ T C (.run all (i :: done) ord Hs z :: k) env' ec' H')) : T C (.run all done (i :: ord) Hs z :: k) env ec H := by
  refine T.mk fun a w ha hw hc => ?_
  obtain ⟨hc', hnd, hns, o', hi', hcase⟩ := chkR_cons hc
  rw [hi] at hi'; cases hi'
  obtain ⟨_, hr⟩ := hcase.resolve_left (fun h => by rw [hq] at h; cases h.1)
  refine wpAnyHR_all hr (by simp) fun j hj => ?_
  have : j = i := by simpa using hj
  subst this
  have := h a w ha hw (fun a' w' => (live z (lst all (j :: done)) = true → Cls C.w0 w' Hs) ∧ wpAnyHR C.rd 0 C.S.P .any all (post (sem C k).1 (sem C k).2 C.Rr) (fun w => Cls C.w0 w Hs) z ord.length (lst all (j :: done)) a' w') (post (sem C k).1 (sem C k).2 C.Rr)
    (fun env' ec' H' a' w' hT ha' hw' => ⟨fun hl => hw'.le (hT.1 hl), hT.2 a' w' ha' hw' hc'⟩)
  unfold wpOpIn
  rw [hi]
  simp only
  split
  · rename_i hwn; exact this.1 hwn
  · rename_i hwn; exact ⟨about_Fr o _ w _, this.2 (by simpa using hwn)⟩
theorem rc {f : FuncId} {args : List Value} (hi : all[i]? = some o) (hq : quietO o.op = false) (hg : gOf all env ec o = some []) (he : evCall env ec [] o = some (f, args)) (hd : o.dst = some d) (hN : Nat.blt d C.N.n = true) (hs : safeC all d ec = true)
    (hc : ∀ w, Cls C.w0 w H → Spec C.S.P f args w (fun u A => u = v ∧ A = [])) (h : T C (.run all (i :: done) ord Hs z :: k) ((d, v) :: env) ec H)
    (hle : Hle H Hs := by first | exact Hle.refl _ | exact Hle.none _ | exact Hle.append_right _ | exact Hle.sub) : T C (.run all done (i :: ord) Hs z :: k) env ec H :=
  ro hi hq (OpT.callV hg he hd hN hs hc ⟨fun _ => hle, h⟩)
theorem rcG {f : FuncId} {args : List Value} (hi : all[i]? = some o) (hq : quietO o.op = false) (hg : gOf all env ec o = some G) (he : evCall env ec G o = some (f, args)) (hd : o.dst = some d) (hN : Nat.blt d C.N.n = true) (hs : safeC all d ec = true) (hsG : safeG all d G = true) (hl : lookE env d = none)
    (hc : GP all env ec G → ∀ w, Cls C.w0 w H → Spec C.S.P f args w (fun u A => u = v ∧ A = [])) (h : T C (.run all (i :: done) ord Hs z :: k) env ((d, (G, v)) :: ec) H)
    (hle : Hle H Hs := by first | exact Hle.refl _ | exact Hle.none _ | exact Hle.append_right _ | exact Hle.sub) : T C (.run all done (i :: ord) Hs z :: k) env ec H :=
  ro hi hq (OpT.callC hg he hd hN hs hsG hl hc ⟨fun _ => hle, h⟩)
/-- A call with blocks of its own. -/
theorem rcE {f : FuncId} {args : List Value} {α : Type} {p : α → Prop} {val : α → Value} {own : α → HA} (hi : all[i]? = some o) (hq : quietO o.op = false) (hg : gOf all env ec o = some []) (he : evCall env ec [] o = some (f, args)) (hd : o.dst = some d) (hN : Nat.blt d C.N.n = true) (hs : safeC all d ec = true)
    (hc : ∀ w, Cls C.w0 w H → Spec C.S.P f args w (fun u A => ∃ x, p x ∧ u = val x ∧ A = [own x])) (h : ∀ x, p x → T C (.run all (i :: done) ord Hs z :: k) ((d, val x) :: env) ec (own x :: H))
    (hle : ∀ x, Hle (own x :: H) Hs := by intro x; first | exact Hle.tail _ _ | exact Hle.none _ | exact (Hle.tail _ _).trans (Hle.append_right _)) : T C (.run all done (i :: ord) Hs z :: k) env ec H :=
  ro hi hq (OpT.call hg he hd hN hs hc (by rintro u A ⟨x, hp, rfl, rfl⟩; exact ⟨fun _ => hle x, h x hp⟩))
end

/-- One step of whatever kind that needs no word of ours. -/
theorem d1 {A B : Prop} (h : B) (hab : B → A := by
  intro hh
  first
  | ((show T _ (.ops _ (⟨_, .load _ _, _, _, _, none⟩ :: _) :: _) _ _ _)
     first
     | exact T_load rfl rfl rfl rfl rfl (rdOwn1 rfl) hh
     | exact T_loadA rfl rfl rfl rfl rfl rdAll rfl hh
     | exact T_load rfl rfl rfl rfl rfl (rdOld ‹RdC _ _ _ [_]›) hh
     | exact T_load rfl rfl rfl rfl rfl (rdOld (RdC.at ‹RdC _ _ _ _› rfl)) hh
     | exact T_load rfl rfl rfl rfl rfl (rdOld (RdC.at2 ‹RdC _ _ _ _› rfl)) hh
     | exact T_loadA rfl rfl rfl rfl rfl (rdOld ‹RdC _ _ _ _›) rfl hh)
  | ((show T _ (.ops _ (⟨_, .load _ _, _, _, _, some _⟩ :: _) :: _) _ _ _)
     first
     | exact T_loadC rfl rfl rfl rfl rfl rfl rfl (fun _ => rdOwn1 rfl) hh
     | exact T_loadAC rfl rfl rfl rfl rfl rfl rfl (fun _ => rdAll) rfl hh
     | exact T_loadC rfl rfl rfl rfl rfl rfl rfl (fun _ => rdOld ‹RdC _ _ _ [_]›) hh
     | exact T_loadC rfl rfl rfl rfl rfl rfl rfl (fun _ => rdOld (RdC.at ‹RdC _ _ _ _› rfl)) hh
     | exact T_loadC rfl rfl rfl rfl rfl rfl rfl (fun _ => rdOld (RdC.at2 ‹RdC _ _ _ _› rfl)) hh
     | exact T_loadAC rfl rfl rfl rfl rfl rfl rfl (fun _ => rdOld ‹RdC _ _ _ _›) rfl hh)
  | ((show T _ (.ops _ (⟨_, .store _ _ _, _, _, _, _⟩ :: _) :: _) _ _ _)
     first
     | exact T_op (OpT.store rfl rfl rfl rfl (by first | exact Nat.le_of_ble_eq_true rfl | decide | (simp; omega)) hh)
     | exact T_op (OpT.storeA rfl rfl rfl rfl rfl rfl (by first | exact Nat.le_of_ble_eq_true rfl | decide | (simp; omega)) hh))
  | ((show T _ (.ops _ (⟨_, .box _ _, _, _, _, _⟩ :: _) :: _) _ _ _)
     exact T_op (OpT.box rfl rfl rfl rfl rfl rfl rfl hh))
  | ((show T _ (.ops _ (⟨_, .alloc _, _, _, _, _⟩ :: _) :: _) _ _ _)
     exact T_op (OpT.alloc rfl rfl rfl rfl rfl rfl rfl hh))
  | ((show T _ (.ops _ (⟨_, .buildSlice _ _ _, _, _, _, _⟩ :: _) :: _) _ _ _)
     exact T_op (OpT.litW rfl rfl rfl rfl rfl rfl rfl rfl rfl rfl rfl hh))
  | ((show T _ (.ops _ (⟨_, .build _ _, _, _, _, none⟩ :: _) :: _) _ _ _)
     exact T_val rfl (Val.build rfl) rfl rfl rfl hh)
  | ((show T _ (.ops _ (⟨_, .build _ _, _, _, _, some _⟩ :: _) :: _) _ _ _)
     exact T_valC rfl (Val.build rfl) rfl rfl rfl rfl rfl hh)
  | ((show T _ (.ops _ (⟨_, _, _, _, _, none⟩ :: _) :: _) _ _ _)
     first
     | exact T_pure rfl rfl rfl rfl rfl hh
     | exact T_vc rfl rfl rfl rfl rfl (by first | (simp only [inK]; omega) | omega | with_reducible exact True.intro | with_reducible assumption) hh)
  | ((show T _ (.ops _ (⟨_, _, _, _, _, some _⟩ :: _) :: _) _ _ _)
     first
     | exact T_pureC rfl rfl rfl rfl rfl rfl rfl hh
     | exact T_vcC rfl rfl rfl rfl rfl rfl rfl (fun hg => by
         (simp only [List.cons_append, List.nil_append, GP, dstL, lookE, Nat.beq, cond, List.getElem?_cons_zero, List.getElem?_cons_succ, Option.bind_some, and_true, Bool.and_eq_true, Bool.or_eq_true, Bool.and_eq_false_iff, Bool.or_eq_false_iff, Bool.not_eq_true', Bool.not_eq_false', decide_eq_true_eq, decide_eq_false_iff_not] at hg)
         first | (simp only [inK]; omega) | omega | with_reducible exact True.intro | with_reducible assumption) hh)
  | ((show T _ (.ops _ [] :: _) _ _ _)
     exact T_end hh)) : A := hab h
/-- One step of a region. -/
theorem dd {A B : Prop} (h : B) (hab : B → A := by
  intro hh
  first
  | ((show T _ (.code (.region _ _ true) :: _) _ _ _)
     first
     | exact rsL rfl (by decide +kernel) hh
     | exact rsS rfl (by decide +kernel) hh)
  | ((show T _ (.run _ _ [] _ _ :: _) _ _ _)
     exact re rfl hh)
  | ((show T _ (.run _ _ (_ :: _) _ _ :: _) _ _ _)
     first
     | exact rv rfl rfl rfl (by
         first
         | exact Val.pure rfl
         | exact Val.load rfl (fun _ => rdOwn1 rfl)
         | exact Val.loadA rfl (fun _ => rdAll) rfl
         | exact Val.build rfl
         | exact Val.load rfl (fun _ => rdOld ‹RdC _ _ _ [_]›)
         | exact Val.load rfl (fun _ => rdOld (RdC.at ‹RdC _ _ _ _› rfl))
         | exact Val.load rfl (fun _ => rdOld (RdC.at2 ‹RdC _ _ _ _› rfl))
         | exact Val.loadA rfl (fun _ => rdOld ‹RdC _ _ _ _›) rfl
         | exact Val.vc rfl (fun hg => by first | (simp only [inK]; omega) | omega | with_reducible exact True.intro | with_reducible assumption)) rfl rfl rfl hh
     | exact rg rfl rfl rfl (by
         first
         | exact Val.pure rfl
         | exact Val.load rfl (fun _ => rdOwn1 rfl)
         | exact Val.loadA rfl (fun _ => rdAll) rfl
         | exact Val.build rfl
         | exact Val.load rfl (fun _ => rdOld ‹RdC _ _ _ [_]›)
         | exact Val.load rfl (fun _ => rdOld (RdC.at ‹RdC _ _ _ _› rfl))
         | exact Val.load rfl (fun _ => rdOld (RdC.at2 ‹RdC _ _ _ _› rfl))
         | exact Val.loadA rfl (fun _ => rdOld ‹RdC _ _ _ _›) rfl
         | exact Val.vc rfl (fun hg => by
             (simp only [List.cons_append, List.nil_append, GP, dstL, lookE, Nat.beq, cond, List.getElem?_cons_zero, List.getElem?_cons_succ, Option.bind_some, and_true, Bool.and_eq_true, Bool.or_eq_true, Bool.and_eq_false_iff, Bool.or_eq_false_iff, Bool.not_eq_true', Bool.not_eq_false', decide_eq_true_eq, decide_eq_false_iff_not] at hg)
             first | (simp only [inK]; omega) | omega | with_reducible exact True.intro | with_reducible assumption)) rfl rfl rfl rfl rfl hh
     | exact ro rfl rfl (OpT.store rfl rfl rfl rfl (by first | exact Nat.le_of_ble_eq_true rfl | decide | (simp; omega)) ⟨fun h => by first | exact absurd h (by decide +kernel) | exact Hle.sub, hh⟩))) : A := hab h

/-! ## What is not named is kept -/
def memN (s : Nat) : List Nat → Bool
  | [] => false
  | x :: l => Nat.beq x s || memN s l
inductive KeepX : Env → List Nat → Env → Prop where
  | nil (ks : List Nat) : KeepX [] ks []
  | drop {s : Nat} {v : Value} {env env' : Env} {ks : List Nat} (h : memN s ks = true) (r : KeepX env ks env') : KeepX ((s, v) :: env) ks env'
  | keep {s : Nat} {v : Value} {env env' : Env} {ks : List Nat} (h : memN s ks = false) (r : KeepX env (s :: ks) env') : KeepX ((s, v) :: env) ks ((s, v) :: env')
theorem memN_spec {s : Nat} : ∀ {l : List Nat}, memN s l = true ↔ s ∈ l
  | [] => by simp [memN]
  | x :: l => by
    simp only [memN, Bool.or_eq_true, List.mem_cons, memN_spec (l := l)]
    rw [show (Nat.beq x s = true) ↔ s = x from ⟨fun h => (Nat.eq_of_beq_eq_true h).symm, fun h => by subst h; simp⟩]
theorem EnvLe.of {l env : Env} (h : ∀ s v, (s, v) ∈ l → lookE env s = some v) : EnvLe l env := by
  induction l with
  | nil => trivial
  | cons x l ih => exact ⟨h x.1 x.2 (.head _), ih fun s v hm => h s v (.tail _ hm)⟩
theorem KeepX.mem {env env' : Env} {ks : List Nat} (h : KeepX env ks env') : ∀ s v, (s, v) ∈ env' → s ∉ ks ∧ lookE env s = some v := by
  induction h with
  | nil ks => intro s v h; cases h
  | drop h r ih =>
    rename_i s' v' env env' ks
    intro s v hl
    obtain ⟨h1, h2⟩ := ih s v hl
    refine ⟨h1, ?_⟩
    have hne := memN_spec.1 h
    unfold lookE
    have : Nat.beq s' s = false := by
      cases hb : Nat.beq s' s with
      | false => rfl
      | true => have e := Nat.eq_of_beq_eq_true hb; subst e; exact absurd hne h1
    rw [this]; exact h2
  | keep h r ih =>
    rename_i s' v' env env' ks
    intro s v hl
    rcases List.mem_cons.1 hl with e | hl
    · cases e
      refine ⟨fun hm => ?_, ?_⟩
      · rw [memN_spec.2 hm] at h; cases h
      · unfold lookE; simp
    · obtain ⟨h1, h2⟩ := ih s v hl
      refine ⟨fun hm => h1 (.tail _ hm), ?_⟩
      unfold lookE
      have : Nat.beq s' s = false := by
        cases hb : Nat.beq s' s with
        | false => rfl
        | true => have e := Nat.eq_of_beq_eq_true hb; subst e; exact absurd List.mem_cons_self h1
      rw [this]; exact h2
theorem KeepX.le {env env' : Env} {ks : List Nat} (h : KeepX env ks env') : EnvLe env' env := EnvLe.of fun s v hm => (h.mem s v hm).2
theorem EnvLe.append {l m env : Env} (h1 : EnvLe l env) (h2 : EnvLe m env) : EnvLe (l ++ m) env := by
  induction l with
  | nil => exact h2
  | cons x l ih => exact ⟨h1.1, ih h1.2⟩
section
variable {C : Cx} {k : List It} {env : Env} {ec : EnvC} {H : List HA}
/-- A loop; what the family does not name is as before. -/
theorem T_loopX {c : Code} {σ : Type} {ks : List Nat} {env' : Env} (U : σ → Env) (G : σ → List HA) (I : σ → Prop) (μ : σ → Nat) (s0 : σ) (hI : I s0)
    (hr : ∀ s, I s → T C (nf 60 (.code c :: .mark (Back C (fun s => U s ++ env') G I μ s) :: k)) (U s ++ env') [] (G s))
    (hks : (U s0).map Prod.fst = ks := by exact rfl)
    (hk : KeepX env ks env' := by repeat' (first | exact KeepX.nil _ | apply KeepX.drop rfl | apply KeepX.keep rfl))
    (hE : EnvLe (U s0) env := by repeat' (first | exact True.intro | refine And.intro rfl ?_)) (hG : Hle H (G s0) := by first | exact Hle.refl _ | exact Hle.none _) : T C (.code (.loop c) :: k) env ec H :=
  T_loop (fun s => U s ++ env') G I μ s0 hI (hE.append hk.le) hG hr
theorem T_backX {σ : Type} {U : σ → Env} {env' : Env} {G : σ → List HA} {I : σ → Prop} {μ : σ → Nat} {s : σ} (s' : σ) (hI : I s') (hμ : μ s' < μ s)
    (hE : EnvLe (U s') env := by repeat' (first | exact True.intro | refine And.intro rfl ?_)) (hE2 : EnvLe env' env := by repeat' (first | exact True.intro | refine And.intro rfl ?_)) (hG : Hle H (G s') := by first | exact Hle.refl _ | exact Hle.none _) :
    T C (.mark (Back C (fun s => U s ++ env') G I μ s) :: k) env ec H := T_back s' hI hμ (hE.append hE2) hG
/-- Where ways meet again; what is not named is as before. -/
theorem T_cutX {σ : Type} {env' : Env} (m : Nat) (ks : List Nat) (U : σ → Env) (G : σ → List HA) (I : σ → Prop)
    (h1 : T C (k.take m ++ .mark (Meets C (fun s => U s ++ env') G I) :: k.drop m) env ec H) (h2 : ∀ s, I s → T C (nf 60 (k.drop m)) (U s ++ env') [] (G s))
    (hm : allOf (k.take m ++ .mark (Meets C (fun s => U s ++ env') G I) :: k.drop m) = allOf k := by exact rfl)
    (hk : KeepX env ks env' := by repeat' (first | exact KeepX.nil _ | apply KeepX.drop rfl | apply KeepX.keep rfl)) : T C k env ec H :=
  T_cutAt m (fun s => U s ++ env') G I hm h1 h2
theorem T_meetX {σ : Type} {U : σ → Env} {env' : Env} {G : σ → List HA} {I : σ → Prop} (s' : σ) (hI : I s')
    (hE : EnvLe (U s') env := by repeat' (first | exact True.intro | refine And.intro rfl ?_)) (hE2 : EnvLe env' env := by repeat' (first | exact True.intro | refine And.intro rfl ?_)) (hG : Hle H (G s') := by first | exact Hle.refl _ | exact Hle.none _) :
    T C (.mark (Meets C (fun s => U s ++ env') G I) :: k) env ec H := T_meet s' hI (hE.append hE2) hG
end
end Go.Proofs.YtmcgificpaeipaaGreatDoor
/- The engine: data with depth: what cells say, read through slices; data of the call's own that nothing turns any more. It speaks of any program. -/
namespace Go.Proofs.YtmcgificpaeipaaGreatDoor
open Go.RowKit Go.Shelf

/-- A cell: a plain value; or a slice, by what its elements' cells say, one after the other. -/
inductive D where
  | v (x : Value)
  | s (sz : Nat) (l : List D)
abbrev Rdr := Nat → Nat → Option Value
def wr (w : World) : Rdr := fun b o => w.cell? ⟨b, o, none⟩
def fr (f : Frag) : Rdr := fun b o => match f b with
  | some (.cells cs _ _) => cs[o]?
  | _ => none
def Rdr.le (R S : Rdr) : Prop := ∀ b o u, R b o = some u → S b o = some u
/-- What the cells say. -/
inductive Rd (R : Rdr) : List Value → List D → Prop where
  | nil : Rd R [] []
  | v (x : Value) {vs : List Value} {ds : List D} (h : Rd R vs ds) : Rd R (x :: vs) (.v x :: ds)
  | s (A : Option Addr) (n cap sz : Nat) (cs : List Value) {l : List D} {vs : List Value} {ds : List D} (hl : l.length = n * sz) (hn : n ≤ cap) (hm : cap ≤ 9223372036854775807)
      (hc : 0 < n → isAt A ∧ ∀ j u, cs[j]? = some u → R (bk A) (ofs A + j) = some u) (hcs : Rd R cs l) (h : Rd R vs ds) : Rd R (.slice A n cap :: vs) (.s sz l :: ds)
theorem Rd.mono {R S : Rdr} (hRS : R.le S) {vs : List Value} {ds : List D} (h : Rd R vs ds) : Rd S vs ds := by
  induction h with
  | nil => exact .nil
  | v x _ ih => exact .v x ih
  | s A n cap sz cs hl hn hm hc _ _ ih1 ih2 => exact .s A n cap sz cs hl hn hm (fun h => ⟨(hc h).1, fun j u hu => hRS _ _ _ ((hc h).2 j u hu)⟩) ih1 ih2
theorem Rd.length {R : Rdr} {vs : List Value} {ds : List D} (h : Rd R vs ds) : vs.length = ds.length := by
  induction h with
  | nil => rfl
  | v x _ ih => simp [ih]
  | s _ _ _ _ _ _ _ _ _ _ _ _ ih2 => simp [ih2]
theorem Rd.append {R : Rdr} {vs ws : List Value} {ds es : List D} (h : Rd R vs ds) (k : Rd R ws es) : Rd R (vs ++ ws) (ds ++ es) := by
  induction h with
  | nil => exact k
  | v x _ ih => exact .v x ih
  | s A n cap sz cs hl hn hm hc hcs _ _ ih2 => exact .s A n cap sz cs hl hn hm hc hcs ih2
theorem Rd.cons_inv {R : Rdr} {x : Value} {vs : List Value} {d : D} {ds : List D} (h : Rd R (x :: vs) (d :: ds)) : Rd R [x] [d] ∧ Rd R vs ds := by
  cases h with
  | v x h => exact ⟨.v x .nil, h⟩
  | s A n cap sz cs hl hn hm hc hcs h => exact ⟨.s A n cap sz cs hl hn hm hc hcs .nil, h⟩
theorem Rd.get {R : Rdr} : ∀ {ds : List D} {vs : List Value}, Rd R vs ds → ∀ {i : Nat} {d : D}, ds[i]? = some d → ∃ x, vs[i]? = some x ∧ Rd R [x] [d]
  | [], _, _, i, d, hd => by simp at hd
  | e :: ds, vs, h, i, d, hd => by
    match vs, h with
    | [], h => cases h
    | x :: vs, h =>
      obtain ⟨h1, h2⟩ := h.cons_inv
      cases i with
      | zero => simp at hd; subst hd; exact ⟨x, rfl, h1⟩
      | succ i => obtain ⟨y, hy, hr⟩ := h2.get (i := i) (by simpa using hd); exact ⟨y, by simpa using hy, hr⟩
theorem Rd.split {R : Rdr} : ∀ {ds es : List D} {vs : List Value}, Rd R vs (ds ++ es) → ∃ ws us, vs = ws ++ us ∧ Rd R ws ds ∧ Rd R us es
  | [], es, vs, h => ⟨[], vs, rfl, .nil, h⟩
  | d :: ds, es, vs, h => by
    match vs, h with
    | [], h => cases h
    | x :: vs, h =>
      obtain ⟨h1, h2⟩ := h.cons_inv
      obtain ⟨ws, us, rfl, h3, h4⟩ := h2.split
      exact ⟨x :: ws, us, rfl, h1.append h3, h4⟩
theorem Rd.take {R : Rdr} {ds : List D} {vs : List Value} (h : Rd R vs ds) (n : Nat) : Rd R (vs.take n) (ds.take n) ∧ Rd R (vs.drop n) (ds.drop n) := by
  have hl := h.length
  rw [← List.take_append_drop n ds] at h
  obtain ⟨ws, us, rfl, h1, h2⟩ := h.split
  have h3 := h1.length
  have h4 := h2.length
  have hw : ws.length = min n ds.length := by rw [h3, List.length_take]
  by_cases hn : n ≤ ds.length
  · have e : n = ws.length := by omega
    refine ⟨?_, ?_⟩
    · rw [e, List.take_left, ← e]; exact h1
    · rw [e, List.drop_left, ← e]; exact h2
  · have e1 : ds.take n = ds := List.take_of_length_le (by omega)
    have e2 : ds.drop n = [] := List.drop_eq_nil_of_le (by omega)
    rw [e2] at h2 h4 ⊢
    have e3 : us = [] := List.eq_nil_of_length_eq_zero (by simpa using h4)
    subst e3
    rw [e1] at h1 ⊢
    rw [List.append_nil, List.take_of_length_le (by rw [h1.length]; omega), List.drop_eq_nil_of_le (by rw [h1.length]; omega)]
    exact ⟨h1, .nil⟩
theorem Rd.val {R : Rdr} {x : Value} {y : Value} (h : Rd R [x] [.v y]) : x = y := by cases h; rfl
theorem Rd.vals {R : Rdr} : ∀ (vs : List Value), Rd R vs (vs.map .v)
  | [] => .nil
  | x :: vs => .v x (Rd.vals vs)
theorem Rd.vals_inv {R : Rdr} : ∀ {xs vs : List Value}, Rd R vs (xs.map .v) → vs = xs
  | [], [], _ => rfl
  | x :: xs, y :: vs, h => by
    obtain ⟨h1, h2⟩ := Rd.cons_inv (d := .v x) h
    rw [h1.val, h2.vals_inv]
theorem Rd.vals_one {R : Rdr} {xs : List Value} {x : Value} {sz : Nat} (h : Rd R [x] [.s sz (xs.map .v)]) : ∃ A n cap, x = .slice A n cap ∧ xs.length = n * sz ∧ n ≤ cap ∧ cap ≤ 9223372036854775807 ∧ (0 < n → isAt A ∧ ∀ j u, xs[j]? = some u → R (bk A) (ofs A + j) = some u) := by
  cases h with
  | s A n cap sz cs hl hn hm hc hcs _ =>
    have := hcs.vals_inv
    subst this
    exact ⟨A, n, cap, rfl, by simpa using hl, hn, hm, hc⟩
theorem Rd.slice {R : Rdr} {x : Value} {sz : Nat} {l : List D} (h : Rd R [x] [.s sz l]) : ∃ A n cap cs, x = .slice A n cap ∧ l.length = n * sz ∧ cs.length = n * sz ∧ n ≤ cap ∧ cap ≤ 9223372036854775807 ∧ (0 < n → isAt A ∧ ∀ j u, cs[j]? = some u → R (bk A) (ofs A + j) = some u) ∧ Rd R cs l := by
  cases h with
  | s A n cap sz cs hl hn hm hc hcs _ => exact ⟨A, n, cap, cs, rfl, hl, by rw [hcs.length, hl], hn, hm, hc, hcs⟩
/-- .. in a world. -/
theorem Rd.src {w : World} {x : Value} {sz : Nat} {l : List D} (h : Rd (wr w) [x] [.s sz l]) : ∃ A n cap cs, x = .slice A n cap ∧ l.length = n * sz ∧ n ≤ cap ∧ cap ≤ 9223372036854775807 ∧ Src w sz A n cs ∧ Rd (wr w) cs l := by
  obtain ⟨A, n, cap, cs, h1, h2, h3, h4, h5, h6, h7⟩ := h.slice
  exact ⟨A, n, cap, cs, h1, h2, h4, h5, ⟨h3, fun hn => ⟨(h6 hn).1, (h6 hn).2⟩⟩, h7⟩
theorem Rd.srcV {w : World} {x : Value} {sz : Nat} {xs : List Value} (h : Rd (wr w) [x] [.s sz (xs.map .v)]) : ∃ A n cap, x = .slice A n cap ∧ xs.length = n * sz ∧ n ≤ cap ∧ cap ≤ 9223372036854775807 ∧ Src w sz A n xs := by
  obtain ⟨A, n, cap, h1, h2, h4, h5, h6⟩ := h.vals_one
  exact ⟨A, n, cap, h1, h2, h4, h5, ⟨h2, fun hn => ⟨(h6 hn).1, (h6 hn).2⟩⟩⟩
theorem Src.rd {w : World} {sz : Nat} {A : Option Addr} {n cap : Nat} {xs : List Value} (h : Src w sz A n xs) (hn : n ≤ cap) (hm : cap ≤ 9223372036854775807) : Rd (wr w) [.slice A n cap] [.s sz (xs.map .v)] :=
  .s A n cap sz xs (by rw [List.length_map]; exact h.1) hn hm (fun h1 => ⟨(h.2 h1).1, (h.2 h1).2⟩) (Rd.vals xs) .nil
theorem Src.rdD {w : World} {sz : Nat} {A : Option Addr} {n cap : Nat} {cs : List Value} {l : List D} (h : Src w sz A n cs) (hn : n ≤ cap) (hm : cap ≤ 9223372036854775807) (hr : Rd (wr w) cs l) : Rd (wr w) [.slice A n cap] [.s sz l] :=
  .s A n cap sz cs (by rw [← hr.length]; exact h.1) hn hm (fun h1 => ⟨(h.2 h1).1, (h.2 h1).2⟩) hr .nil
theorem wr_below {w w' : World} (hb : Below w.heap.size w w') : (wr w).le (wr w') := fun _ _ _ hu => (hb.cell (lt_of_cell hu)).trans hu
theorem Rd.old {w0 w : World} {H : List HA} {vs : List Value} {ds : List D} (h : Rd (wr w0) vs ds) (hw : Cls w0 w H) : Rd (wr w) vs ds := h.mono (wr_below hw.below)

/-! ## Data of the call's own -/
def dat (vs : List Value) (ds : List D) : HA := fun f => Rd (fr f) vs ds
def fz (p : Frag) : HA := fun f => f = p
class FocusZ (H : List HA) (p : Frag) : Prop where
  at_ : ∃ i : Nat, H[i]? = some (fz p)
instance FocusZ.head (H : List HA) (p : Frag) : FocusZ (fz p :: H) p := ⟨0, rfl⟩
instance FocusZ.tail (A0 : HA) (H : List HA) (p : Frag) [h : FocusZ H p] : FocusZ (A0 :: H) p := ⟨by obtain ⟨i, h1⟩ := h.at_; exact ⟨i + 1, by simpa using h1⟩⟩
theorem fr_le {w : World} {f : Frag} (h : ∀ b o, f b = some o → w.heap[b]? = some o) : (fr f).le (wr w) := by
  intro b o u hu
  unfold fr at hu
  cases hf : f b with
  | none => rw [hf] at hu; cases hu
  | some ob =>
    rw [hf] at hu
    cases ob <;> simp only at hu <;> try (cases hu; done)
    rename_i cs t m
    unfold wr
    rw [cell_of_row w b o cs t m (h b _ hf)]
    exact hu
theorem Cls.fz {w0 w : World} {H : List HA} {p : Frag} (hw : Cls w0 w H) [hz : FocusZ H p] : (fr p).le (wr w) := by
  obtain ⟨i, hi⟩ := hz.at_
  obtain ⟨F, h1, h2, h3⟩ := hw.sep
  have hil : i < H.length := (List.getElem?_eq_some_iff.1 hi).1
  have hp : F i = p := h1 i _ hi
  subst hp
  exact fr_le fun b o hf => (h2 i b o hil hf).2
theorem Rd.own {w0 w : World} {H : List HA} {p : Frag} [FocusZ H p] {vs : List Value} {ds : List D} (h : Rd (fr p) vs ds) (hw : Cls w0 w H) : Rd (wr w) vs ds := h.mono (hw.fz (p := p))
theorem T_open {C : Cx} {k : List It} {env : Env} {ec : EnvC} {H : List HA} {vs : List Value} {ds : List D} (h : ∀ p, Rd (fr p) vs ds → T C k env ec (fz p :: H)) : T C k env ec (dat vs ds :: H) := by
  refine T.mk fun a w ha hw => ?_
  obtain ⟨F, h1, h2, h3⟩ := hw.sep
  have hd := h1 0 _ rfl
  refine h (F 0) hd a w ha ⟨hw.below, F, fun i A hi => ?_, h2, h3⟩
  cases i with
  | zero => simp at hi; subst hi; rfl
  | succ i => exact h1 (i + 1) A (by simpa using hi)
theorem fz_dat {p : Frag} {vs : List Value} {ds : List D} (h : Rd (fr p) vs ds) : ∀ f, fz p f → dat vs ds f := fun f hf => by subst hf; exact h

/-! ## Entries that are joined -/
theorem hle_merge {A B E : HA} {H : List HA} (h : ∀ f g : Frag, (∀ b, f b = none ∨ g b = none) → A f → B g → E (fun b => (f b).or (g b))) : Hle (A :: B :: H) (E :: H) := by
  rintro n0 w ⟨F, h1, h2, h3⟩
  have hE := h (F 0) (F 1) (fun b => h3 0 1 b (by simp) (by simp) (by omega)) (h1 0 _ rfl) (h1 1 _ rfl)
  refine ⟨fun i => match i with | 0 => fun b => (F 0 b).or (F 1 b) | i + 1 => F (i + 2), fun i A hi => ?_, fun i b o hi hf => ?_, fun i j b hi hj hne => ?_⟩
  · cases i with
    | zero => simp at hi; subst hi; exact hE
    | succ i => exact h1 (i + 2) A (by simpa using hi)
  · cases i with
    | zero =>
      dsimp only at hf
      cases hq : F 0 b with
      | some x => rw [hq] at hf; simp at hf; subst hf; exact h2 0 b x (by simp) hq
      | none => rw [hq] at hf; simp at hf; exact h2 1 b o (by simp) hf
    | succ i => exact h2 (i + 2) b o (by simp at hi ⊢; omega) hf
  · have both : ∀ j, j + 2 < (A :: B :: H).length → ((F 0 b).or (F 1 b) = none ∨ F (j + 2) b = none) := by
      intro j hj
      rcases h3 0 (j + 2) b (by simp) hj (by omega) with h | h
      · rcases h3 1 (j + 2) b (by simp) hj (by omega) with h' | h'
        · left; rw [h, h']; rfl
        · exact .inr h'
      · exact .inr h
    cases i with
    | zero =>
      cases j with
      | zero => omega
      | succ j => exact both j (by simp at hj ⊢; omega)
    | succ i =>
      cases j with
      | zero => exact (both i (by simp at hi ⊢; omega)).symm
      | succ j => exact h3 (i + 2) (j + 2) b (by simp at hi ⊢; omega) (by simp at hj ⊢; omega) (by omega)
theorem hle_unit {B : HA} {H : List HA} (h : B (fun _ => none)) : Hle H (B :: H) := by
  rintro n0 w ⟨F, h1, h2, h3⟩
  refine ⟨fun i => match i with | 0 => fun _ => none | i + 1 => F i, fun i A hi => ?_, fun i b o hi hf => ?_, fun i j b hi hj hne => ?_⟩
  · cases i with
    | zero => simp at hi; subst hi; exact h
    | succ i => exact h1 i A (by simpa using hi)
  · cases i with
    | zero => cases hf
    | succ i => exact h2 i b o (by simpa using hi) hf
  · cases i with
    | zero => exact .inl rfl
    | succ i =>
      cases j with
      | zero => exact .inr rfl
      | succ j => exact h3 i j b (by simpa using hi) (by simpa using hj) (by omega)
theorem hle_map {A B : HA} {H : List HA} (h : ∀ f, A f → B f) : Hle (A :: H) (B :: H) := Hle.weaken (i := 0) rfl h rfl
theorem fr_or_left {f g : Frag} : (fr f).le (fr (fun b => (f b).or (g b))) := by
  intro b o u hu
  unfold fr at hu ⊢
  cases hf : f b with
  | none => rw [hf] at hu; cases hu
  | some x => rw [hf] at hu; dsimp only; rw [hf]; exact hu
theorem fr_or_right {f g : Frag} (h : ∀ b, f b = none ∨ g b = none) : (fr g).le (fr (fun b => (f b).or (g b))) := by
  intro b o u hu
  unfold fr at hu ⊢
  cases hg : g b with
  | none => rw [hg] at hu; cases hu
  | some x =>
    rw [hg] at hu
    rcases h b with h | h
    · dsimp only; rw [h, hg]; exact hu
    · rw [hg] at h; cases h
theorem dat_nil (H : List HA) : Hle H (dat [] [] :: H) := hle_unit Rd.nil
theorem dat_vals (H : List HA) (vs : List Value) : Hle H (dat vs (vs.map .v) :: H) := hle_unit (Rd.vals vs)
theorem dat_join {vs ws : List Value} {ds es : List D} {H : List HA} : Hle (dat ws es :: dat vs ds :: H) (dat (vs ++ ws) (ds ++ es) :: H) :=
  hle_merge fun _ _ hd h1 h2 => (Rd.mono (fr_or_right hd) h2).append (Rd.mono fr_or_left h1)
theorem fr_one {g o : Nat} {cs : Array Value} {t : TypeId} {m : Nat × Nat} : fr (one g (.cells cs t m)) g o = cs[o]? := by unfold fr one; simp
/-- A slice of the call's own, with what its elements' cells say. -/
theorem dat_row {e : TypeId} {sz cap n : Nat} {A : Option Addr} {cs : List Value} {l : List D} {H : List HA} : Hle (row e sz A cap n cs :: dat cs l :: H) (dat [.slice A n cap] [.s sz l] :: H) :=
  hle_merge fun f g hd h1 h2 => by
    obtain ⟨hl, h1⟩ := h1
    rcases h1 with ⟨rfl, rfl, rfl, rfl⟩ | ⟨b, cur, rfl, rfl, h3, h4, h5, h6⟩
    · have : cs = [] := List.eq_nil_of_length_eq_zero (by simpa using hl)
      subst this
      have hl2 := Rd.length h2
      exact .s none 0 0 sz [] (by rw [← hl2]; simp) (Nat.le_refl _) (by omega) (fun h => absurd h (by omega)) (Rd.mono (fr_or_right hd) h2) .nil
    · refine .s _ n cap sz cs (by rw [← Rd.length h2]; exact hl) h3 (by simp only [maxLen] at h4; exact h4) (fun _ => ⟨rfl, fun j u hu => ?_⟩) (Rd.mono (fr_or_right hd) h2) .nil
      refine fr_or_left _ _ _ ?_
      show fr _ b (0 + j) = _
      rw [fr_one, Nat.zero_add]
      rw [← h6, List.getElem?_take] at hu
      split at hu
      · simpa using hu
      · cases hu
theorem dat_rowV {e : TypeId} {sz cap n : Nat} {A : Option Addr} {cs : List Value} {H : List HA} : Hle (row e sz A cap n cs :: H) (dat [.slice A n cap] [.s sz (cs.map .v)] :: H) := by
  refine Hle.trans ?_ (dat_row (e := e) (cs := cs))
  exact (dat_vals _ cs).trans (Hle.perm (List.Perm.swap _ _ _))
theorem dat_blk {e : TypeId} {sz n : Nat} {b : Nat} {cs : List Value} {l : List D} {H : List HA} (hl : cs.length = n * sz) (hn : n ≤ 9223372036854775807) : Hle (blk b cs e :: dat cs l :: H) (dat [.slice (some ⟨b, 0, none⟩) n n] [.s sz l] :: H) :=
  (Hle.weaken (i := 0) rfl (blk_row (sz := sz) hl (by simp only [maxLen]; exact hn)) rfl).trans dat_row
theorem dat_blkV {e : TypeId} {sz n : Nat} {b : Nat} {cs : List Value} {H : List HA} (hl : cs.length = n * sz) (hn : n ≤ 9223372036854775807) : Hle (blk b cs e :: H) (dat [.slice (some ⟨b, 0, none⟩) n n] [.s sz (cs.map .v)] :: H) :=
  (Hle.weaken (i := 0) rfl (blk_row (sz := sz) hl (by simp only [maxLen]; exact hn)) rfl).trans dat_rowV
end Go.Proofs.YtmcgificpaeipaaGreatDoor
/- The engine: a store into one of many blocks. It speaks of any program. -/
namespace Go.Proofs.YtmcgificpaeipaaGreatDoor
open Go.RowKit Go.Shelf

class FocusMW (H : List HA) (t : outParam TypeId) (l : outParam (List (Nat × List Value))) (rb : outParam (HA → List HA)) : Prop where
  at_ : ∃ i, H[i]? = some (blks t l) ∧ ∀ B, rb B = H.set i B
instance FocusMW.head (H : List HA) (t : TypeId) (l : List (Nat × List Value)) : FocusMW (blks t l :: H) t l (fun B => B :: H) := ⟨0, rfl, fun _ => rfl⟩
instance FocusMW.tail (A0 : HA) (H : List HA) (t : TypeId) (l : List (Nat × List Value)) (rb : HA → List HA) [h : FocusMW H t l rb] : FocusMW (A0 :: H) t l (fun B => A0 :: rb B) :=
  ⟨by obtain ⟨i, h1, h2⟩ := h.at_; exact ⟨i + 1, by simpa using h1, fun B => by simp [h2]⟩⟩
theorem lookB_set {l : List (Nat × List Value)} (hn : (l.map Prod.fst).Nodup) {k g : Nat} {cs cs' : List Value} (h : l[k]? = some (g, cs)) (x : Nat) : lookB (l.set k (g, cs')) x = if x = g then some cs' else lookB l x := by
  induction l generalizing k with
  | nil => simp at h
  | cons y l ih =>
    obtain ⟨g0, c0⟩ := y
    simp only [List.map_cons, List.nodup_cons] at hn
    cases k with
    | zero =>
      simp at h
      obtain ⟨rfl, rfl⟩ := h
      simp only [List.set_cons_zero, lookB]
      by_cases e : x = g0
      · simp [e]
      · simp [e]
    | succ k =>
      simp only [List.getElem?_cons_succ] at h
      simp only [List.set_cons_succ, lookB]
      have hne : g ≠ g0 := fun e => hn.1 (by rw [← e]; exact List.mem_map.2 ⟨(g, cs), List.mem_of_getElem? h, rfl⟩)
      by_cases e : x = g0
      · subst e; rw [if_pos rfl, if_neg (Ne.symm hne), if_pos rfl]
      · rw [if_neg e, if_neg e]; exact ih hn.2 h
theorem fst_set {l : List (Nat × List Value)} {k g : Nat} {cs cs' : List Value} (h : l[k]? = some (g, cs)) : (l.set k (g, cs')).map Prod.fst = l.map Prod.fst := by
  rw [List.map_set]
  apply List.ext_getElem?
  intro i
  rw [List.getElem?_set]
  split
  · rename_i e; subst e
    split
    · rw [List.getElem?_map, h]; rfl
    · rename_i h2; rw [List.getElem?_eq_none (by omega)]
  · rfl
section
variable {C : Cx} {all : Array Oper} {o : Oper} {env : Env} {ec : EnvC} {H : List HA} {d : Nat} {Φ : Env → EnvC → List HA → Prop}
theorem OpT.storeM {b off k : Nat} {u : Value} {t : TypeId} {l : List (Nat × List Value)} {cs : List Value} {rb : HA → List HA} (hg : gOf all env ec o = some []) (hd : o.dst = none) (he : evSt C.S env ec o = some (b, off, 1, u)) [hf : FocusMW H t l rb]
    (hk : l[k]? = some (b, cs)) (h1 : u.oneCell' = true) (hl : off < cs.length) (h : Φ env ec (rb (blks t (l.set k (b, cs.set off u))))) : OpT C all o env ec H Φ := by
  obtain ⟨i, hi, hrb⟩ := hf.at_
  have hcu : u.cells.toList = [u] := by cases u <;> first | rfl | (simp [Value.oneCell'] at h1)
  refine OpT.skip hg hd fun a w ha hw => ?_
  have hb := hw.blks hi hk
  have hbn : C.w0.heap.size ≤ b := by
    obtain ⟨F, f1, f2, f3⟩ := hw.sep
    have hil : i < H.length := (List.getElem?_eq_some_iff.1 hi).1
    obtain ⟨hn, hF⟩ := f1 i _ hi
    exact (f2 i b _ hil (by rw [hF, lookB_get hn hk]; rfl)).1
  obtain ⟨w', g1, g2, g3, g4, g5, g6, g7⟩ := run_storeL C.S.P b t [u] 0 off cs w hb (by simp; omega) (by simp [oneCells, h1])
  refine ⟨w', _, ?_, ⟨?_, ?_⟩, h⟩
  · obtain ⟨dst, op, ty, pos, aft, gd⟩ := o
    unfold evSt at he
    dsimp only at he
    split at he
    · rename_i t' x y
      split at he
      · rename_i d0 n' m z b' off' v' ht hx hy
        cases he
        have hsz := (Sig.tyOk ht).sizeOf w
        dsimp only at hsz
        have hsize : u.cells.size = 1 := by have := congrArg List.length hcu; simpa using this
        simp only [execOp, evX_spec ha (Holds.nil _ _) hx, evX_spec ha (Holds.nil _ _) hy, Instr.storeAt, Instr.sureAddr, storeVar]
        simp [hsz, hsize, hcu, g1]
      · cases he
    · cases he
  · exact hw.below.trans ⟨g4, g5, g6, by omega, fun c hc => g3 c (by omega)⟩
  · rw [hrb]
    refine hw.sep.swap hi fun f hF hfw => ?_
    obtain ⟨hn, hF⟩ := hF
    refine ⟨fun x => if x = b then some (.cells (cs.set off u).toArray t (0, 0)) else f x, ⟨by rw [fst_set hk]; exact hn, fun x => ?_⟩, fun x ob hx => ?_, fun c hc hfc => ?_⟩
    · rw [lookB_set hn hk]
      dsimp only
      by_cases e : x = b
      · rw [if_pos e, if_pos e]; rfl
      · rw [if_neg e, if_neg e]; exact hF x
    · dsimp only at hx
      by_cases e : x = b
      · subst e
        rw [if_pos rfl] at hx
        cases hx
        refine ⟨hbn, by simpa [setL] using g2, .inl ?_⟩
        rw [hF, lookB_get hn hk]; simp
      · rw [if_neg e] at hx
        have := hfw x ob hx
        refine ⟨this.1, (g3 x e).trans this.2, .inl ?_⟩
        rw [hx]; simp
    · refine g3 c fun e => ?_
      subst e
      rw [hF, lookB_get hn hk] at hfc
      cases hfc
end
/-! ## Rows of numbers, frozen -/
def intsD (l : List Int) : D := .s 1 (l.map fun n => .v (.int .i64 n))
def rowsD (m : List (List Int)) : D := .s 1 (m.map intsD)
theorem rd_blks {f : Frag} {t : TypeId} {k cap : Nat} (hk : k ≤ cap) (hcap : cap ≤ 9223372036854775807) : ∀ {L : List (Nat × List Value)}, (∀ x ∈ L, f x.1 = some (.cells x.2.toArray t (0, 0)) ∧ k ≤ x.2.length) →
    Rd (fr f) (L.map fun x => .slice (some ⟨x.1, 0, none⟩) k cap) (L.map fun x => D.s 1 ((x.2.take k).map .v))
  | [], _ => .nil
  | x :: L, h => by
    obtain ⟨h1, h2⟩ := h x (List.mem_cons_self ..)
    refine Rd.s (some ⟨x.1, 0, none⟩) k cap 1 (x.2.take k) (by simp; omega) hk hcap (fun _ => ⟨rfl, fun j u hu => ?_⟩) (Rd.vals _) (rd_blks hk hcap fun y hy => h y (List.mem_cons_of_mem _ hy))
    show fr f x.1 (0 + j) = some u
    unfold fr
    rw [h1, Nat.zero_add]
    rw [List.getElem?_take] at hu
    split at hu
    · simpa using hu
    · cases hu
/-- Many blocks, read as rows of k numbers each. -/
theorem dat_blks {t : TypeId} {L : List (Nat × List Value)} {H : List HA} (k cap : Nat) (hk : k ≤ cap) (hcap : cap ≤ 9223372036854775807) (hL : ∀ x ∈ L, k ≤ x.2.length) :
    Hle (blks t L :: H) (dat (L.map fun x => .slice (some ⟨x.1, 0, none⟩) k cap) (L.map fun x => D.s 1 ((x.2.take k).map .v)) :: H) :=
  hle_map fun f ⟨hn, hf⟩ => rd_blks hk hcap fun x hx => by
    obtain ⟨i, hi, e⟩ := List.getElem_of_mem hx
    refine ⟨?_, hL x hx⟩
    rw [hf, lookB_get hn (k := i) (cs := x.2) (by rw [List.getElem?_eq_getElem hi, e])]
    rfl
theorem dat_take {vs : List Value} {ds : List D} {H : List HA} (n : Nat) : Hle (dat vs ds :: H) (dat (vs.take n) (ds.take n) :: H) := hle_map fun _ h => (Rd.take h n).1
theorem blk_row_take {b : Nat} {cs : List Value} {e : TypeId} {n : Nat} (hn : n ≤ cs.length) (hm : cs.length ≤ maxLen) : ∀ f, blk b cs e f → row e 1 (some ⟨b, 0, none⟩) cs.length n (cs.take n) f :=
  fun f hf => ⟨by simp; omega, .inr ⟨b, cs.toArray, rfl, hf, hn, hm, by simp, by simp⟩⟩
end Go.Proofs.YtmcgificpaeipaaGreatDoor
/- The table of the types, for the engine. Written by a program of mine off the translation. -/
namespace Go.Proofs.YtmcgificpaeipaaGreatDoor
open Go.Proofs
set_option maxRecDepth 100000
theorem tyOk1 : TyOk Tryz.prog 1 ⟨.func, 1, 8, .nilFunc⟩ := ⟨⟨_, _, _, Tryz.underlying1⟩, by kernel_rfl⟩
theorem tyOk2 : TyOk Tryz.prog 2 ⟨.int .i64, 1, 8, .int .i64 0⟩ := ⟨Tryz.underlying2, by kernel_rfl⟩
theorem tyOk3 : TyOk Tryz.prog 3 ⟨.int .i64, 1, 8, .int .i64 0⟩ := ⟨Tryz.underlying3, by kernel_rfl⟩
theorem tyOk4 : TyOk Tryz.prog 4 ⟨.bool, 1, 1, .bool false⟩ := ⟨Tryz.underlying4, by kernel_rfl⟩
theorem tyOk5 : TyOk Tryz.prog 5 ⟨.int .u8, 1, 1, .int .u8 0⟩ := ⟨Tryz.underlying5, by kernel_rfl⟩
theorem tyOk6 : TyOk Tryz.prog 6 ⟨.int .u8, 1, 1, .int .u8 0⟩ := ⟨Tryz.underlying6, by kernel_rfl⟩
theorem tyOk7 : TyOk Tryz.prog 7 ⟨.struct [(2, 0), (3, 1), (4, 2), (6, 3)], 4, 24, .agg #[.int .i64 0, .int .i64 0, .bool false, .int .u8 0]⟩ := ⟨⟨_, Tryz.underlying7, by kernel_rfl⟩, by kernel_rfl⟩
theorem tyOk8 : TyOk Tryz.prog 8 ⟨.struct [(2, 0), (3, 1), (4, 2), (6, 3)], 4, 24, .agg #[.int .i64 0, .int .i64 0, .bool false, .int .u8 0]⟩ := ⟨⟨_, Tryz.underlying8, by kernel_rfl⟩, by kernel_rfl⟩
theorem tyOk9 : TyOk Tryz.prog 9 ⟨.str, 1, 16, .string .empty⟩ := ⟨Tryz.underlying9, by kernel_rfl⟩
theorem tyOk10 : TyOk Tryz.prog 10 ⟨.str, 1, 16, .string .empty⟩ := ⟨Tryz.underlying10, by kernel_rfl⟩
theorem tyOk11 : TyOk Tryz.prog 11 ⟨.str, 1, 16, .string .empty⟩ := ⟨Tryz.underlying11, by kernel_rfl⟩
theorem tyOk12 : TyOk Tryz.prog 12 ⟨.int .u64, 1, 8, .int .u64 0⟩ := ⟨Tryz.underlying12, by kernel_rfl⟩
theorem tyOk13 : TyOk Tryz.prog 13 ⟨.struct [(9, 0), (12, 1)], 2, 24, .agg #[.string .empty, .int .u64 0]⟩ := ⟨⟨_, Tryz.underlying13, by kernel_rfl⟩, by kernel_rfl⟩
theorem tyOk14 : TyOk Tryz.prog 14 ⟨.struct [(9, 0), (12, 1)], 2, 24, .agg #[.string .empty, .int .u64 0]⟩ := ⟨⟨_, Tryz.underlying14, by kernel_rfl⟩, by kernel_rfl⟩
theorem tyOk15 : TyOk Tryz.prog 15 ⟨.ptr 183, 1, 8, .pointer none⟩ := ⟨Tryz.underlying15, by kernel_rfl⟩
theorem tyOk16 : TyOk Tryz.prog 16 ⟨.ptr 186, 1, 8, .pointer none⟩ := ⟨Tryz.underlying16, by kernel_rfl⟩
theorem tyOk17 : TyOk Tryz.prog 17 ⟨.ptr 194, 1, 8, .pointer none⟩ := ⟨Tryz.underlying17, by kernel_rfl⟩
theorem tyOk18 : TyOk Tryz.prog 18 ⟨.struct [(17, 0)], 1, 8, .agg #[.pointer none]⟩ := ⟨⟨_, Tryz.underlying18, by kernel_rfl⟩, by kernel_rfl⟩
theorem tyOk19 : TyOk Tryz.prog 19 ⟨.struct [(17, 0)], 1, 8, .agg #[.pointer none]⟩ := ⟨⟨_, Tryz.underlying19, by kernel_rfl⟩, by kernel_rfl⟩
theorem tyOk20 : TyOk Tryz.prog 20 ⟨.iface, 1, 16, .nilIface⟩ := ⟨⟨_, Tryz.underlying20⟩, by kernel_rfl⟩
theorem tyOk21 : TyOk Tryz.prog 21 ⟨.int .i32, 1, 4, .int .i32 0⟩ := ⟨Tryz.underlying21, by kernel_rfl⟩
theorem tyOk22 : TyOk Tryz.prog 22 ⟨.struct [(3, 0), (3, 1), (3, 2), (3, 3)], 4, 32, .agg #[.int .i64 0, .int .i64 0, .int .i64 0, .int .i64 0]⟩ := ⟨⟨_, Tryz.underlying22, by kernel_rfl⟩, by kernel_rfl⟩
theorem tyOk23 : TyOk Tryz.prog 23 ⟨.struct [(3, 0), (3, 1), (3, 2), (3, 3)], 4, 32, .agg #[.int .i64 0, .int .i64 0, .int .i64 0, .int .i64 0]⟩ := ⟨⟨_, Tryz.underlying23, by kernel_rfl⟩, by kernel_rfl⟩
theorem tyOk24 : TyOk Tryz.prog 24 ⟨.slice 48, 1, 24, .slice none 0 0⟩ := ⟨Tryz.underlying24, by kernel_rfl⟩
theorem tyOk25 : TyOk Tryz.prog 25 ⟨.func, 1, 8, .nilFunc⟩ := ⟨⟨_, _, _, Tryz.underlying25⟩, by kernel_rfl⟩
theorem tyOk26 : TyOk Tryz.prog 26 ⟨.func, 1, 8, .nilFunc⟩ := ⟨⟨_, _, _, Tryz.underlying26⟩, by kernel_rfl⟩
theorem tyOk27 : TyOk Tryz.prog 27 ⟨.int .i64, 1, 8, .int .i64 0⟩ := ⟨Tryz.underlying27, by kernel_rfl⟩
theorem tyOk29 : TyOk Tryz.prog 29 ⟨.func, 1, 8, .nilFunc⟩ := ⟨⟨_, _, _, Tryz.underlying29⟩, by kernel_rfl⟩
theorem tyOk30 : TyOk Tryz.prog 30 ⟨.slice 33, 1, 24, .slice none 0 0⟩ := ⟨Tryz.underlying30, by kernel_rfl⟩
theorem tyOk32 : TyOk Tryz.prog 32 ⟨.func, 1, 8, .nilFunc⟩ := ⟨⟨_, _, _, Tryz.underlying32⟩, by kernel_rfl⟩
theorem tyOk33 : TyOk Tryz.prog 33 ⟨.slice 3, 1, 24, .slice none 0 0⟩ := ⟨Tryz.underlying33, by kernel_rfl⟩
theorem tyOk34 : TyOk Tryz.prog 34 ⟨.func, 1, 8, .nilFunc⟩ := ⟨⟨_, _, _, Tryz.underlying34⟩, by kernel_rfl⟩
theorem tyOk35 : TyOk Tryz.prog 35 ⟨.func, 1, 8, .nilFunc⟩ := ⟨⟨_, _, _, Tryz.underlying35⟩, by kernel_rfl⟩
theorem tyOk37 : TyOk Tryz.prog 37 ⟨.func, 1, 8, .nilFunc⟩ := ⟨⟨_, _, _, Tryz.underlying37⟩, by kernel_rfl⟩
theorem tyOk38 : TyOk Tryz.prog 38 ⟨.func, 1, 8, .nilFunc⟩ := ⟨⟨_, _, _, Tryz.underlying38⟩, by kernel_rfl⟩
theorem tyOk39 : TyOk Tryz.prog 39 ⟨.func, 1, 8, .nilFunc⟩ := ⟨⟨_, _, _, Tryz.underlying39⟩, by kernel_rfl⟩
theorem tyOk40 : TyOk Tryz.prog 40 ⟨.slice 5, 1, 24, .slice none 0 0⟩ := ⟨Tryz.underlying40, by kernel_rfl⟩
theorem tyOk41 : TyOk Tryz.prog 41 ⟨.func, 1, 8, .nilFunc⟩ := ⟨⟨_, _, _, Tryz.underlying41⟩, by kernel_rfl⟩
theorem tyOk42 : TyOk Tryz.prog 42 ⟨.func, 1, 8, .nilFunc⟩ := ⟨⟨_, _, _, Tryz.underlying42⟩, by kernel_rfl⟩
theorem tyOk43 : TyOk Tryz.prog 43 ⟨.func, 1, 8, .nilFunc⟩ := ⟨⟨_, _, _, Tryz.underlying43⟩, by kernel_rfl⟩
theorem tyOk44 : TyOk Tryz.prog 44 ⟨.func, 1, 8, .nilFunc⟩ := ⟨⟨_, _, _, Tryz.underlying44⟩, by kernel_rfl⟩
theorem tyOk45 : TyOk Tryz.prog 45 ⟨.struct [(9, 0), (3, 1)], 2, 24, .agg #[.string .empty, .int .i64 0]⟩ := ⟨⟨_, Tryz.underlying45, by kernel_rfl⟩, by kernel_rfl⟩
theorem tyOk46 : TyOk Tryz.prog 46 ⟨.struct [(9, 0), (3, 1)], 2, 24, .agg #[.string .empty, .int .i64 0]⟩ := ⟨⟨_, Tryz.underlying46, by kernel_rfl⟩, by kernel_rfl⟩
theorem tyOk47 : TyOk Tryz.prog 47 ⟨.struct [(9, 0), (9, 1), (46, 2), (3, 4), (9, 5)], 6, 80, .agg #[.string .empty, .string .empty, .string .empty, .int .i64 0, .int .i64 0, .string .empty]⟩ := ⟨⟨_, Tryz.underlying47, by kernel_rfl⟩, by kernel_rfl⟩
theorem tyOk48 : TyOk Tryz.prog 48 ⟨.struct [(9, 0), (9, 1), (46, 2), (3, 4), (9, 5)], 6, 80, .agg #[.string .empty, .string .empty, .string .empty, .int .i64 0, .int .i64 0, .string .empty]⟩ := ⟨⟨_, Tryz.underlying48, by kernel_rfl⟩, by kernel_rfl⟩
theorem tyOk49 : TyOk Tryz.prog 49 ⟨.func, 1, 8, .nilFunc⟩ := ⟨⟨_, _, _, Tryz.underlying49⟩, by kernel_rfl⟩
theorem tyOk50 : TyOk Tryz.prog 50 ⟨.arr 2 24, 2, 48, .agg #[.slice none 0 0, .slice none 0 0]⟩ := ⟨Tryz.underlying50, by kernel_rfl⟩
theorem tyOk51 : TyOk Tryz.prog 51 ⟨.slice 50, 1, 24, .slice none 0 0⟩ := ⟨Tryz.underlying51, by kernel_rfl⟩
theorem tyOk52 : TyOk Tryz.prog 52 ⟨.func, 1, 8, .nilFunc⟩ := ⟨⟨_, _, _, Tryz.underlying52⟩, by kernel_rfl⟩
theorem tyOk53 : TyOk Tryz.prog 53 ⟨.func, 1, 8, .nilFunc⟩ := ⟨⟨_, _, _, Tryz.underlying53⟩, by kernel_rfl⟩
theorem tyOk54 : TyOk Tryz.prog 54 ⟨.func, 1, 8, .nilFunc⟩ := ⟨⟨_, _, _, Tryz.underlying54⟩, by kernel_rfl⟩
theorem tyOk55 : TyOk Tryz.prog 55 ⟨.struct [(23, 0), (24, 4), (24, 5), (30, 6), (30, 7)], 8, 128, .agg #[.int .i64 0, .int .i64 0, .int .i64 0, .int .i64 0, .slice none 0 0, .slice none 0 0, .slice none 0 0, .slice none 0 0]⟩ := ⟨⟨_, Tryz.underlying55, by kernel_rfl⟩, by kernel_rfl⟩
theorem tyOk56 : TyOk Tryz.prog 56 ⟨.struct [(23, 0), (24, 4), (24, 5), (30, 6), (30, 7)], 8, 128, .agg #[.int .i64 0, .int .i64 0, .int .i64 0, .int .i64 0, .slice none 0 0, .slice none 0 0, .slice none 0 0, .slice none 0 0]⟩ := ⟨⟨_, Tryz.underlying56, by kernel_rfl⟩, by kernel_rfl⟩
theorem tyOk57 : TyOk Tryz.prog 57 ⟨.func, 1, 8, .nilFunc⟩ := ⟨⟨_, _, _, Tryz.underlying57⟩, by kernel_rfl⟩
theorem tyOk58 : TyOk Tryz.prog 58 ⟨.func, 1, 8, .nilFunc⟩ := ⟨⟨_, _, _, Tryz.underlying58⟩, by kernel_rfl⟩
theorem tyOk59 : TyOk Tryz.prog 59 ⟨.func, 1, 8, .nilFunc⟩ := ⟨⟨_, _, _, Tryz.underlying59⟩, by kernel_rfl⟩
theorem tyOk61 : TyOk Tryz.prog 61 ⟨.func, 1, 8, .nilFunc⟩ := ⟨⟨_, _, _, Tryz.underlying61⟩, by kernel_rfl⟩
theorem tyOk62 : TyOk Tryz.prog 62 ⟨.slice 56, 1, 24, .slice none 0 0⟩ := ⟨Tryz.underlying62, by kernel_rfl⟩
theorem tyOk67 : TyOk Tryz.prog 67 ⟨.slice 24, 1, 24, .slice none 0 0⟩ := ⟨Tryz.underlying67, by kernel_rfl⟩
theorem tyOk71 : TyOk Tryz.prog 71 ⟨.func, 1, 8, .nilFunc⟩ := ⟨⟨_, _, _, Tryz.underlying71⟩, by kernel_rfl⟩
theorem tyOk73 : TyOk Tryz.prog 73 ⟨.arr 2 33, 2, 48, .agg #[.slice none 0 0, .slice none 0 0]⟩ := ⟨Tryz.underlying73, by kernel_rfl⟩
theorem tyOk75 : TyOk Tryz.prog 75 ⟨.struct [(23, 0), (24, 4), (24, 5), (73, 6)], 8, 128, .agg #[.int .i64 0, .int .i64 0, .int .i64 0, .int .i64 0, .slice none 0 0, .slice none 0 0, .slice none 0 0, .slice none 0 0]⟩ := ⟨⟨_, Tryz.underlying75, by kernel_rfl⟩, by kernel_rfl⟩
theorem tyOk78 : TyOk Tryz.prog 78 ⟨.slice 33, 1, 24, .slice none 0 0⟩ := ⟨Tryz.underlying78, by kernel_rfl⟩
theorem tyOk81 : TyOk Tryz.prog 81 ⟨.func, 1, 8, .nilFunc⟩ := ⟨⟨_, _, _, Tryz.underlying81⟩, by kernel_rfl⟩
theorem tyOk82 : TyOk Tryz.prog 82 ⟨.slice 85, 1, 24, .slice none 0 0⟩ := ⟨Tryz.underlying82, by kernel_rfl⟩
theorem tyOk85 : TyOk Tryz.prog 85 ⟨.struct [(3, 0), (3, 1), (3, 2)], 3, 24, .agg #[.int .i64 0, .int .i64 0, .int .i64 0]⟩ := ⟨⟨_, Tryz.underlying85, by kernel_rfl⟩, by kernel_rfl⟩
theorem tyOk99 : TyOk Tryz.prog 99 ⟨.func, 1, 8, .nilFunc⟩ := ⟨⟨_, _, _, Tryz.underlying99⟩, by kernel_rfl⟩
theorem tyOk111 : TyOk Tryz.prog 111 ⟨.func, 1, 8, .nilFunc⟩ := ⟨⟨_, _, _, Tryz.underlying111⟩, by kernel_rfl⟩
theorem tyOk114 : TyOk Tryz.prog 114 ⟨.func, 1, 8, .nilFunc⟩ := ⟨⟨_, _, _, Tryz.underlying114⟩, by kernel_rfl⟩
theorem tyOk118 : TyOk Tryz.prog 118 ⟨.slice 4, 1, 24, .slice none 0 0⟩ := ⟨Tryz.underlying118, by kernel_rfl⟩
theorem tyOk123 : TyOk Tryz.prog 123 ⟨.iface, 1, 16, .nilIface⟩ := ⟨⟨_, Tryz.underlying123⟩, by kernel_rfl⟩
theorem tyOk126 : TyOk Tryz.prog 126 ⟨.func, 1, 8, .nilFunc⟩ := ⟨⟨_, _, _, Tryz.underlying126⟩, by kernel_rfl⟩
theorem tyOk134 : TyOk Tryz.prog 134 ⟨.slice 137, 1, 24, .slice none 0 0⟩ := ⟨Tryz.underlying134, by kernel_rfl⟩
theorem tyOk137 : TyOk Tryz.prog 137 ⟨.func, 1, 8, .nilFunc⟩ := ⟨⟨_, _, _, Tryz.underlying137⟩, by kernel_rfl⟩
theorem tyOk139 : TyOk Tryz.prog 139 ⟨.arr 24 5, 24, 24, .agg #[.int .u8 0, .int .u8 0, .int .u8 0, .int .u8 0, .int .u8 0, .int .u8 0, .int .u8 0, .int .u8 0, .int .u8 0, .int .u8 0, .int .u8 0, .int .u8 0, .int .u8 0, .int .u8 0, .int .u8 0, .int .u8 0, .int .u8 0, .int .u8 0, .int .u8 0, .int .u8 0, .int .u8 0, .int .u8 0, .int .u8 0, .int .u8 0]⟩ := ⟨Tryz.underlying139, by kernel_rfl⟩
theorem tyOk140 : TyOk Tryz.prog 140 ⟨.int .u64, 1, 8, .int .u64 0⟩ := ⟨Tryz.underlying140, by kernel_rfl⟩
theorem tyOk147 : TyOk Tryz.prog 147 ⟨.int .i64, 1, 8, .int .i64 0⟩ := ⟨Tryz.underlying147, by kernel_rfl⟩
theorem tyOk150 : TyOk Tryz.prog 150 ⟨.ptr 167, 1, 8, .pointer none⟩ := ⟨Tryz.underlying150, by kernel_rfl⟩
theorem tyOk154 : TyOk Tryz.prog 154 ⟨.slice 9, 1, 24, .slice none 0 0⟩ := ⟨Tryz.underlying154, by kernel_rfl⟩
theorem tyOk158 : TyOk Tryz.prog 158 ⟨.arr 20 140, 20, 160, .agg #[.int .u64 0, .int .u64 0, .int .u64 0, .int .u64 0, .int .u64 0, .int .u64 0, .int .u64 0, .int .u64 0, .int .u64 0, .int .u64 0, .int .u64 0, .int .u64 0, .int .u64 0, .int .u64 0, .int .u64 0, .int .u64 0, .int .u64 0, .int .u64 0, .int .u64 0, .int .u64 0]⟩ := ⟨Tryz.underlying158, by kernel_rfl⟩
theorem tyOk159 : TyOk Tryz.prog 159 ⟨.int .u32, 1, 4, .int .u32 0⟩ := ⟨Tryz.underlying159, by kernel_rfl⟩
theorem tyOk161 : TyOk Tryz.prog 161 ⟨.int .u64, 1, 8, .int .u64 0⟩ := ⟨Tryz.underlying161, by kernel_rfl⟩
theorem tyOk167 : TyOk Tryz.prog 167 ⟨.struct [(9, 0), (9, 1), (123, 2)], 3, 48, .agg #[.string .empty, .string .empty, .nilIface]⟩ := ⟨⟨_, Tryz.underlying167, by kernel_rfl⟩, by kernel_rfl⟩
theorem tyOk173 : TyOk Tryz.prog 173 ⟨.ptr 5, 1, 8, .pointer none⟩ := ⟨Tryz.underlying173, by kernel_rfl⟩
theorem tyOk174 : TyOk Tryz.prog 174 ⟨.ptr 176, 1, 8, .pointer none⟩ := ⟨Tryz.underlying174, by kernel_rfl⟩
theorem tyOk176 : TyOk Tryz.prog 176 ⟨.struct [(9, 0)], 1, 16, .agg #[.string .empty]⟩ := ⟨⟨_, Tryz.underlying176, by kernel_rfl⟩, by kernel_rfl⟩
theorem tyOk179 : TyOk Tryz.prog 179 ⟨.arr 32 5, 32, 32, .agg #[.int .u8 0, .int .u8 0, .int .u8 0, .int .u8 0, .int .u8 0, .int .u8 0, .int .u8 0, .int .u8 0, .int .u8 0, .int .u8 0, .int .u8 0, .int .u8 0, .int .u8 0, .int .u8 0, .int .u8 0, .int .u8 0, .int .u8 0, .int .u8 0, .int .u8 0, .int .u8 0, .int .u8 0, .int .u8 0, .int .u8 0, .int .u8 0, .int .u8 0, .int .u8 0, .int .u8 0, .int .u8 0, .int .u8 0, .int .u8 0, .int .u8 0, .int .u8 0]⟩ := ⟨Tryz.underlying179, by kernel_rfl⟩
def tyTab : List (Nat × TyI) := [
  (3, ⟨.int .i64, 1, 8, .int .i64 0⟩),
  (24, ⟨.slice 48, 1, 24, .slice none 0 0⟩),
  (9, ⟨.str, 1, 16, .string .empty⟩),
  (23, ⟨.struct [(3, 0), (3, 1), (3, 2), (3, 3)], 4, 32, .agg #[.int .i64 0, .int .i64 0, .int .i64 0, .int .i64 0]⟩),
  (5, ⟨.int .u8, 1, 1, .int .u8 0⟩),
  (33, ⟨.slice 3, 1, 24, .slice none 0 0⟩),
  (2, ⟨.int .i64, 1, 8, .int .i64 0⟩),
  (30, ⟨.slice 33, 1, 24, .slice none 0 0⟩),
  (48, ⟨.struct [(9, 0), (9, 1), (46, 2), (3, 4), (9, 5)], 6, 80, .agg #[.string .empty, .string .empty, .string .empty, .int .i64 0, .int .i64 0, .string .empty]⟩),
  (1, ⟨.func, 1, 8, .nilFunc⟩),
  (27, ⟨.int .i64, 1, 8, .int .i64 0⟩),
  (4, ⟨.bool, 1, 1, .bool false⟩),
  (75, ⟨.struct [(23, 0), (24, 4), (24, 5), (73, 6)], 8, 128, .agg #[.int .i64 0, .int .i64 0, .int .i64 0, .int .i64 0, .slice none 0 0, .slice none 0 0, .slice none 0 0, .slice none 0 0]⟩),
  (140, ⟨.int .u64, 1, 8, .int .u64 0⟩),
  (10, ⟨.str, 1, 16, .string .empty⟩),
  (6, ⟨.int .u8, 1, 1, .int .u8 0⟩),
  (56, ⟨.struct [(23, 0), (24, 4), (24, 5), (30, 6), (30, 7)], 8, 128, .agg #[.int .i64 0, .int .i64 0, .int .i64 0, .int .i64 0, .slice none 0 0, .slice none 0 0, .slice none 0 0, .slice none 0 0]⟩),
  (159, ⟨.int .u32, 1, 4, .int .u32 0⟩),
  (8, ⟨.struct [(2, 0), (3, 1), (4, 2), (6, 3)], 4, 24, .agg #[.int .i64 0, .int .i64 0, .bool false, .int .u8 0]⟩),
  (40, ⟨.slice 5, 1, 24, .slice none 0 0⟩),
  (7, ⟨.struct [(2, 0), (3, 1), (4, 2), (6, 3)], 4, 24, .agg #[.int .i64 0, .int .i64 0, .bool false, .int .u8 0]⟩),
  (18, ⟨.struct [(17, 0)], 1, 8, .agg #[.pointer none]⟩),
  (67, ⟨.slice 24, 1, 24, .slice none 0 0⟩),
  (85, ⟨.struct [(3, 0), (3, 1), (3, 2)], 3, 24, .agg #[.int .i64 0, .int .i64 0, .int .i64 0]⟩),
  (78, ⟨.slice 33, 1, 24, .slice none 0 0⟩),
  (13, ⟨.struct [(9, 0), (12, 1)], 2, 24, .agg #[.string .empty, .int .u64 0]⟩),
  (21, ⟨.int .i32, 1, 4, .int .i32 0⟩),
  (123, ⟨.iface, 1, 16, .nilIface⟩),
  (161, ⟨.int .u64, 1, 8, .int .u64 0⟩),
  (15, ⟨.ptr 183, 1, 8, .pointer none⟩),
  (147, ⟨.int .i64, 1, 8, .int .i64 0⟩),
  (82, ⟨.slice 85, 1, 24, .slice none 0 0⟩),
  (154, ⟨.slice 9, 1, 24, .slice none 0 0⟩),
  (20, ⟨.iface, 1, 16, .nilIface⟩),
  (16, ⟨.ptr 186, 1, 8, .pointer none⟩),
  (26, ⟨.func, 1, 8, .nilFunc⟩),
  (11, ⟨.str, 1, 16, .string .empty⟩),
  (50, ⟨.arr 2 24, 2, 48, .agg #[.slice none 0 0, .slice none 0 0]⟩),
  (12, ⟨.int .u64, 1, 8, .int .u64 0⟩),
  (32, ⟨.func, 1, 8, .nilFunc⟩),
  (46, ⟨.struct [(9, 0), (3, 1)], 2, 24, .agg #[.string .empty, .int .i64 0]⟩),
  (19, ⟨.struct [(17, 0)], 1, 8, .agg #[.pointer none]⟩),
  (81, ⟨.func, 1, 8, .nilFunc⟩),
  (167, ⟨.struct [(9, 0), (9, 1), (123, 2)], 3, 48, .agg #[.string .empty, .string .empty, .nilIface]⟩),
  (35, ⟨.func, 1, 8, .nilFunc⟩),
  (54, ⟨.func, 1, 8, .nilFunc⟩),
  (73, ⟨.arr 2 33, 2, 48, .agg #[.slice none 0 0, .slice none 0 0]⟩),
  (118, ⟨.slice 4, 1, 24, .slice none 0 0⟩),
  (17, ⟨.ptr 194, 1, 8, .pointer none⟩),
  (25, ⟨.func, 1, 8, .nilFunc⟩),
  (139, ⟨.arr 24 5, 24, 24, .agg #[.int .u8 0, .int .u8 0, .int .u8 0, .int .u8 0, .int .u8 0, .int .u8 0, .int .u8 0, .int .u8 0, .int .u8 0, .int .u8 0, .int .u8 0, .int .u8 0, .int .u8 0, .int .u8 0, .int .u8 0, .int .u8 0, .int .u8 0, .int .u8 0, .int .u8 0, .int .u8 0, .int .u8 0, .int .u8 0, .int .u8 0, .int .u8 0]⟩),
  (14, ⟨.struct [(9, 0), (12, 1)], 2, 24, .agg #[.string .empty, .int .u64 0]⟩),
  (150, ⟨.ptr 167, 1, 8, .pointer none⟩),
  (158, ⟨.arr 20 140, 20, 160, .agg #[.int .u64 0, .int .u64 0, .int .u64 0, .int .u64 0, .int .u64 0, .int .u64 0, .int .u64 0, .int .u64 0, .int .u64 0, .int .u64 0, .int .u64 0, .int .u64 0, .int .u64 0, .int .u64 0, .int .u64 0, .int .u64 0, .int .u64 0, .int .u64 0, .int .u64 0, .int .u64 0]⟩),
  (38, ⟨.func, 1, 8, .nilFunc⟩),
  (43, ⟨.func, 1, 8, .nilFunc⟩),
  (47, ⟨.struct [(9, 0), (9, 1), (46, 2), (3, 4), (9, 5)], 6, 80, .agg #[.string .empty, .string .empty, .string .empty, .int .i64 0, .int .i64 0, .string .empty]⟩),
  (51, ⟨.slice 50, 1, 24, .slice none 0 0⟩),
  (58, ⟨.func, 1, 8, .nilFunc⟩),
  (62, ⟨.slice 56, 1, 24, .slice none 0 0⟩),
  (71, ⟨.func, 1, 8, .nilFunc⟩),
  (99, ⟨.func, 1, 8, .nilFunc⟩),
  (134, ⟨.slice 137, 1, 24, .slice none 0 0⟩),
  (179, ⟨.arr 32 5, 32, 32, .agg #[.int .u8 0, .int .u8 0, .int .u8 0, .int .u8 0, .int .u8 0, .int .u8 0, .int .u8 0, .int .u8 0, .int .u8 0, .int .u8 0, .int .u8 0, .int .u8 0, .int .u8 0, .int .u8 0, .int .u8 0, .int .u8 0, .int .u8 0, .int .u8 0, .int .u8 0, .int .u8 0, .int .u8 0, .int .u8 0, .int .u8 0, .int .u8 0, .int .u8 0, .int .u8 0, .int .u8 0, .int .u8 0, .int .u8 0, .int .u8 0, .int .u8 0, .int .u8 0]⟩),
  (22, ⟨.struct [(3, 0), (3, 1), (3, 2), (3, 3)], 4, 32, .agg #[.int .i64 0, .int .i64 0, .int .i64 0, .int .i64 0]⟩),
  (111, ⟨.func, 1, 8, .nilFunc⟩),
  (176, ⟨.struct [(9, 0)], 1, 16, .agg #[.string .empty]⟩),
  (61, ⟨.func, 1, 8, .nilFunc⟩),
  (114, ⟨.func, 1, 8, .nilFunc⟩),
  (126, ⟨.func, 1, 8, .nilFunc⟩),
  (137, ⟨.func, 1, 8, .nilFunc⟩),
  (173, ⟨.ptr 5, 1, 8, .pointer none⟩),
  (174, ⟨.ptr 176, 1, 8, .pointer none⟩),
  (29, ⟨.func, 1, 8, .nilFunc⟩),
  (34, ⟨.func, 1, 8, .nilFunc⟩),
  (37, ⟨.func, 1, 8, .nilFunc⟩),
  (39, ⟨.func, 1, 8, .nilFunc⟩),
  (41, ⟨.func, 1, 8, .nilFunc⟩),
  (42, ⟨.func, 1, 8, .nilFunc⟩),
  (44, ⟨.func, 1, 8, .nilFunc⟩),
  (45, ⟨.struct [(9, 0), (3, 1)], 2, 24, .agg #[.string .empty, .int .i64 0]⟩),
  (49, ⟨.func, 1, 8, .nilFunc⟩),
  (52, ⟨.func, 1, 8, .nilFunc⟩),
  (53, ⟨.func, 1, 8, .nilFunc⟩),
  (55, ⟨.struct [(23, 0), (24, 4), (24, 5), (30, 6), (30, 7)], 8, 128, .agg #[.int .i64 0, .int .i64 0, .int .i64 0, .int .i64 0, .slice none 0 0, .slice none 0 0, .slice none 0 0, .slice none 0 0]⟩),
  (57, ⟨.func, 1, 8, .nilFunc⟩),
  (59, ⟨.func, 1, 8, .nilFunc⟩)
]
theorem tyTab_ok : ∀ e ∈ tyTab, TyOk Tryz.prog e.1 e.2 := by
  unfold tyTab
  refine List.forall_mem_cons.2 ⟨tyOk3, ?_⟩
  refine List.forall_mem_cons.2 ⟨tyOk24, ?_⟩
  refine List.forall_mem_cons.2 ⟨tyOk9, ?_⟩
  refine List.forall_mem_cons.2 ⟨tyOk23, ?_⟩
  refine List.forall_mem_cons.2 ⟨tyOk5, ?_⟩
  refine List.forall_mem_cons.2 ⟨tyOk33, ?_⟩
  refine List.forall_mem_cons.2 ⟨tyOk2, ?_⟩
  refine List.forall_mem_cons.2 ⟨tyOk30, ?_⟩
  refine List.forall_mem_cons.2 ⟨tyOk48, ?_⟩
  refine List.forall_mem_cons.2 ⟨tyOk1, ?_⟩
  refine List.forall_mem_cons.2 ⟨tyOk27, ?_⟩
  refine List.forall_mem_cons.2 ⟨tyOk4, ?_⟩
  refine List.forall_mem_cons.2 ⟨tyOk75, ?_⟩
  refine List.forall_mem_cons.2 ⟨tyOk140, ?_⟩
  refine List.forall_mem_cons.2 ⟨tyOk10, ?_⟩
  refine List.forall_mem_cons.2 ⟨tyOk6, ?_⟩
  refine List.forall_mem_cons.2 ⟨tyOk56, ?_⟩
  refine List.forall_mem_cons.2 ⟨tyOk159, ?_⟩
  refine List.forall_mem_cons.2 ⟨tyOk8, ?_⟩
  refine List.forall_mem_cons.2 ⟨tyOk40, ?_⟩
  refine List.forall_mem_cons.2 ⟨tyOk7, ?_⟩
  refine List.forall_mem_cons.2 ⟨tyOk18, ?_⟩
  refine List.forall_mem_cons.2 ⟨tyOk67, ?_⟩
  refine List.forall_mem_cons.2 ⟨tyOk85, ?_⟩
  refine List.forall_mem_cons.2 ⟨tyOk78, ?_⟩
  refine List.forall_mem_cons.2 ⟨tyOk13, ?_⟩
  refine List.forall_mem_cons.2 ⟨tyOk21, ?_⟩
  refine List.forall_mem_cons.2 ⟨tyOk123, ?_⟩
  refine List.forall_mem_cons.2 ⟨tyOk161, ?_⟩
  refine List.forall_mem_cons.2 ⟨tyOk15, ?_⟩
  refine List.forall_mem_cons.2 ⟨tyOk147, ?_⟩
  refine List.forall_mem_cons.2 ⟨tyOk82, ?_⟩
  refine List.forall_mem_cons.2 ⟨tyOk154, ?_⟩
  refine List.forall_mem_cons.2 ⟨tyOk20, ?_⟩
  refine List.forall_mem_cons.2 ⟨tyOk16, ?_⟩
  refine List.forall_mem_cons.2 ⟨tyOk26, ?_⟩
  refine List.forall_mem_cons.2 ⟨tyOk11, ?_⟩
  refine List.forall_mem_cons.2 ⟨tyOk50, ?_⟩
  refine List.forall_mem_cons.2 ⟨tyOk12, ?_⟩
  refine List.forall_mem_cons.2 ⟨tyOk32, ?_⟩
  refine List.forall_mem_cons.2 ⟨tyOk46, ?_⟩
  refine List.forall_mem_cons.2 ⟨tyOk19, ?_⟩
  refine List.forall_mem_cons.2 ⟨tyOk81, ?_⟩
  refine List.forall_mem_cons.2 ⟨tyOk167, ?_⟩
  refine List.forall_mem_cons.2 ⟨tyOk35, ?_⟩
  refine List.forall_mem_cons.2 ⟨tyOk54, ?_⟩
  refine List.forall_mem_cons.2 ⟨tyOk73, ?_⟩
  refine List.forall_mem_cons.2 ⟨tyOk118, ?_⟩
  refine List.forall_mem_cons.2 ⟨tyOk17, ?_⟩
  refine List.forall_mem_cons.2 ⟨tyOk25, ?_⟩
  refine List.forall_mem_cons.2 ⟨tyOk139, ?_⟩
  refine List.forall_mem_cons.2 ⟨tyOk14, ?_⟩
  refine List.forall_mem_cons.2 ⟨tyOk150, ?_⟩
  refine List.forall_mem_cons.2 ⟨tyOk158, ?_⟩
  refine List.forall_mem_cons.2 ⟨tyOk38, ?_⟩
  refine List.forall_mem_cons.2 ⟨tyOk43, ?_⟩
  refine List.forall_mem_cons.2 ⟨tyOk47, ?_⟩
  refine List.forall_mem_cons.2 ⟨tyOk51, ?_⟩
  refine List.forall_mem_cons.2 ⟨tyOk58, ?_⟩
  refine List.forall_mem_cons.2 ⟨tyOk62, ?_⟩
  refine List.forall_mem_cons.2 ⟨tyOk71, ?_⟩
  refine List.forall_mem_cons.2 ⟨tyOk99, ?_⟩
  refine List.forall_mem_cons.2 ⟨tyOk134, ?_⟩
  refine List.forall_mem_cons.2 ⟨tyOk179, ?_⟩
  refine List.forall_mem_cons.2 ⟨tyOk22, ?_⟩
  refine List.forall_mem_cons.2 ⟨tyOk111, ?_⟩
  refine List.forall_mem_cons.2 ⟨tyOk176, ?_⟩
  refine List.forall_mem_cons.2 ⟨tyOk61, ?_⟩
  refine List.forall_mem_cons.2 ⟨tyOk114, ?_⟩
  refine List.forall_mem_cons.2 ⟨tyOk126, ?_⟩
  refine List.forall_mem_cons.2 ⟨tyOk137, ?_⟩
  refine List.forall_mem_cons.2 ⟨tyOk173, ?_⟩
  refine List.forall_mem_cons.2 ⟨tyOk174, ?_⟩
  refine List.forall_mem_cons.2 ⟨tyOk29, ?_⟩
  refine List.forall_mem_cons.2 ⟨tyOk34, ?_⟩
  refine List.forall_mem_cons.2 ⟨tyOk37, ?_⟩
  refine List.forall_mem_cons.2 ⟨tyOk39, ?_⟩
  refine List.forall_mem_cons.2 ⟨tyOk41, ?_⟩
  refine List.forall_mem_cons.2 ⟨tyOk42, ?_⟩
  refine List.forall_mem_cons.2 ⟨tyOk44, ?_⟩
  refine List.forall_mem_cons.2 ⟨tyOk45, ?_⟩
  refine List.forall_mem_cons.2 ⟨tyOk49, ?_⟩
  refine List.forall_mem_cons.2 ⟨tyOk52, ?_⟩
  refine List.forall_mem_cons.2 ⟨tyOk53, ?_⟩
  refine List.forall_mem_cons.2 ⟨tyOk55, ?_⟩
  refine List.forall_mem_cons.2 ⟨tyOk57, ?_⟩
  refine List.forall_mem_cons.2 ⟨tyOk59, ?_⟩
  intro _ h; cases h
noncomputable def sg : Sig := ⟨Tryz.prog, tyTab, tyTab_ok, by kernel_rfl⟩
end Go.Proofs.YtmcgificpaeipaaGreatDoor
/- Walks: characters, words, names. -/
namespace Go.Proofs.YtmcgificpaeipaaGreatDoor
open Go.RowKit Go.Shelf Go.Proofs
set_option maxRecDepth 100000
set_option maxHeartbeats 1000000

theorem kindRef_spec (c : Int) (w : World) : Spec Tryz.prog 72 [.int .u8 c] w (fun v A => v = .int .i64 (kindI c) ∧ A = []) := by
  refine spec_of sg Tryz.func72 rfl rfl rfl ?_
  repeat' (first | refine d1 ?_ | refine dd ?_ | (show ∀ _ : Nat, T _ _ _ _ _; intro _) | (show T _ (.code (.cond _ _ _) :: _) _ _ _; refine T_if rfl (fun h => ?_) (fun h => ?_)) | (show T _ (.code .ret :: _) _ _ _; refine T_retV [] rfl (Hle.refl _) ?_))
  all_goals refine ⟨congrArg (Value.int .i64) ?_, rfl⟩
  all_goals simp only [Bool.or_eq_true, Bool.and_eq_true, decide_eq_true_eq, Bool.or_eq_false_iff, Bool.and_eq_false_iff, decide_eq_false_iff_not] at *
  all_goals (unfold kindI; (repeat' split) <;> omega)

theorem lettersRef_spec (s : ByteArray) (w : World) (hs : s.size ≤ 9223372036854775807) : Spec Tryz.prog 100 [.string s] w (fun v A => v = .int .i64 (lettersN s.data.toList) ∧ A = []) := by
  refine spec_of sg Tryz.func100 rfl rfl rfl ?_
  repeat' (first | refine d1 ?_ | refine dd ?_ | (show ∀ _ : Nat, T _ _ _ _ _; intro _))
  refine T_loop (fun k : Nat => [(0, .string s), (3, .int .i64 (lettersN (s.data.toList.take k))), (4, .int .i64 k)]) (fun _ => []) (fun k => k ≤ s.size) (fun k => s.size - k) 0 (by omega) ⟨rfl, rfl, rfl, trivial⟩ (Hle.refl _) ?_
  intro k hk
  repeat' (first | refine d1 ?_ | refine dd ?_ | (show ∀ _ : Nat, T _ _ _ _ _; intro _))
  refine T_if rfl (fun h => ?_) (fun h => ?_)
  · simp only [decide_eq_true_eq] at h
    have hl := lettersN_le (s.data.toList.take k)
    have hl2 : (s.data.toList.take k).length ≤ k := by rw [List.length_take]; omega
    have hst := lettersN_take s k (by omega)
    repeat' (first | refine d1 ?_ | refine dd ?_ | (show T _ (.ops _ (_ :: _) :: _) _ _ _; first | refine T_call rfl rfl rfl rfl rfl (fun w hw => kindRef_spec _ w) ?_ | refine T_callC rfl rfl rfl rfl rfl rfl rfl (fun hg w hw => kindRef_spec _ w) ?_) | (show T _ (.run _ _ (_ :: _) _ _ :: _) _ _ _; first | refine rc rfl rfl rfl rfl rfl rfl rfl (fun w hw => kindRef_spec _ w) ?_ | refine rcG rfl rfl rfl rfl rfl rfl rfl rfl rfl (fun hg w hw => kindRef_spec _ w) ?_) | (show ∀ _ : Nat, T _ _ _ _ _; intro _) | (show T _ (.code (.cond _ _ _) :: _) _ _ _; refine T_if rfl (fun h => ?_) (fun h => ?_)) | (show T _ _ _ _ _; refine T_back (k + 1) (by omega) (by omega) ⟨rfl, ?_, rfl, trivial⟩ (Hle.refl _)))
    all_goals (refine congrArg (fun z : Int => some (Value.int .i64 z)) ?_; simp only [Bool.or_eq_true, Bool.or_eq_false_iff, decide_eq_true_eq, decide_eq_false_iff_not] at h; rw [hst]; unfold kAt; split <;> omega)
  · simp only [decide_eq_false_iff_not] at h
    have hk2 : k = s.size := by omega
    subst hk2
    repeat' (first | refine d1 ?_ | refine dd ?_ | (show ∀ _ : Nat, T _ _ _ _ _; intro _) | (show T _ (.code .ret :: _) _ _ _; refine T_retV [] rfl (Hle.refl _) ⟨?_, rfl⟩))
    rw [List.take_of_length_le (by simp)]
    rfl

theorem rightRef_spec (s : ByteArray) (w : World) (hs : s.size ≤ 65536) : Spec Tryz.prog 99 [.string s] w
    (fun v A => ∃ x : Nat × Nat, True ∧ v = .slice (some ⟨x.1, 0, none⟩) s.size x.2 ∧ A = [row 4 1 (some ⟨x.1, 0, none⟩) x.2 s.size (rts s s.size)]) := by
  refine spec_of sg Tryz.func99 rfl rfl rfl ?_
  repeat' (first | refine d1 ?_ | refine dd ?_ | (show ∀ _ : Nat, T _ _ _ _ _; intro _))
  refine T_blk_rowh 1 0 rfl (by omega) ?_
  refine T_loop (fun x : Nat × Nat × Nat => [(0, .string s), (3, .slice (some ⟨x.2.1, 0, none⟩) x.1 x.2.2), (4, .int .i64 x.1)]) (fun x => [row 4 1 (some ⟨x.2.1, 0, none⟩) x.2.2 x.1 (rts s x.1)]) (fun x => x.1 ≤ s.size) (fun x => s.size - x.1) (0, _, 0) (Nat.zero_le _) ⟨rfl, rfl, rfl, trivial⟩ (Hle.refl _) ?_
  rintro ⟨k, g, cap⟩ hk
  dsimp only at hk ⊢
  repeat' (first | refine d1 ?_ | refine dd ?_ | (show ∀ _ : Nat, T _ _ _ _ _; intro _))
  refine T_if rfl (fun h => ?_) (fun h => ?_)
  · simp only [decide_eq_true_eq] at h
    repeat' (first | refine d1 ?_ | refine dd ?_ | (show T _ (.ops _ (_ :: _) :: _) _ _ _; first | refine T_call rfl rfl rfl rfl rfl (fun w hw => kindRef_spec _ w) ?_ | refine T_callC rfl rfl rfl rfl rfl rfl rfl (fun hg w hw => kindRef_spec _ w) ?_) | (show T _ (.run _ _ (_ :: _) _ _ :: _) _ _ _; first | refine rc rfl rfl rfl rfl rfl rfl rfl (fun w hw => kindRef_spec _ w) ?_ | refine rcG rfl rfl rfl rfl rfl rfl rfl rfl rfl (fun hg w hw => kindRef_spec _ w) ?_) | (show ∀ _ : Nat, T _ _ _ _ _; intro _))
    refine T_loadC (v := .bool (rtAt s (k - 1))) rfl rfl rfl rfl rfl rfl rfl (fun hg => ?_) ?_
    · (simp only [List.cons_append, List.nil_append, GP, dstL, lookE, Nat.beq, cond, List.getElem?_cons_zero, List.getElem?_cons_succ, Option.bind_some, and_true, Bool.and_eq_true, Bool.or_eq_true, Bool.and_eq_false_iff, Bool.or_eq_false_iff, Bool.not_eq_true', Bool.not_eq_false', decide_eq_true_eq, decide_eq_false_iff_not] at hg)
      refine rdRow (A := some ⟨g, 0, none⟩) (by omega) (get1 ?_)
      rw [show 0 + ((k : Int) - 1).toNat * 1 = k - 1 by omega]
      exact rts_get (by omega)
    repeat' (first | refine d1 ?_ | refine dd ?_ | (show ∀ _ : Nat, T _ _ _ _ _; intro _))
    refine T_op (OpT.append rfl rfl rfl rfl rfl rfl rfl rfl rfl rfl (fun w hw => Src.own hw rfl) rfl (by dsimp only; omega) (by omega) (fun A' cap' hA => ?_))
    obtain ⟨g', rfl⟩ := hA (by omega)
    have hv : (decide (kindI (byteAt s (k : Int)).toNat = 2) && decide ((0 : Int) < k) && (decide (kindI (byteAt s ((k : Int) - 1)).toNat = 1) || rtAt s (k - 1))) = rtAt s k := by
      rw [byteAt_pred]
      cases k with
      | zero => simp [rtAt, canAt]
      | succ k => simp [rtAt, canAt, kAt]; rfl
    rw [hv, show rts s k ++ flatP [(0, .bool (rtAt s k))] = rts s (k + 1) from (rts_succ s k).symm]
    repeat' (first | refine d1 ?_ | refine dd ?_ | (show ∀ _ : Nat, T _ _ _ _ _; intro _))
    exact T_back (k + 1, g', cap') (Nat.succ_le_of_lt (by omega)) (by dsimp only; omega) ⟨rfl, rfl, rfl, trivial⟩ (Hle.tail _ _)
  · simp only [decide_eq_false_iff_not] at h
    have hk2 : k = s.size := by omega
    subst hk2
    repeat' (first | refine d1 ?_ | refine dd ?_ | (show ∀ _ : Nat, T _ _ _ _ _; intro _) | (show T _ (.code .ret :: _) _ _ _; refine T_retV _ rfl (Hle.refl _) ⟨(g, cap), trivial, rfl, rfl⟩))

theorem checkRef_spec (s : ByteArray) (w : World) : Spec Tryz.prog 86 [.string s] w (fun v A => v = .int .i64 (checkS s) ∧ A = []) := by
  refine spec_of sg Tryz.func86 rfl rfl rfl ?_
  repeat' (first | refine d1 ?_ | refine dd ?_ | (show ∀ _ : Nat, T _ _ _ _ _; intro _))
  refine T_if rfl (fun h => ?_) (fun h => ?_)
  · simp only [decide_eq_true_eq] at h
    repeat' (first | refine d1 ?_ | refine dd ?_ | (show ∀ _ : Nat, T _ _ _ _ _; intro _) | (show T _ (.code .ret :: _) _ _ _; refine T_retV [] rfl (Hle.refl _) ⟨?_, rfl⟩))
    unfold checkS; rw [if_pos h]; rfl
  simp only [decide_eq_false_iff_not] at h
  repeat' (first | refine d1 ?_ | refine dd ?_ | (show T _ (.ops _ (_ :: _) :: _) _ _ _; refine T_callE rfl rfl rfl rfl rfl (fun w _ => rightRef_spec s w (by omega)) (fun x _ => ?_)) | (show ∀ _ : Nat, T _ _ _ _ _; intro _))
  refine T_loop (fun k : Nat => [(0, .string s), (3, .slice (some ⟨x.1, 0, none⟩) s.size x.2), (4, .int .i64 k)]) (fun _ => [row 4 1 (some ⟨x.1, 0, none⟩) x.2 s.size (rts s s.size)])
    (fun k => k ≤ s.size ∧ ∀ j, j < k → okAt s j = true) (fun k => s.size - k) 0 ⟨by omega, fun j h => by omega⟩ ⟨rfl, rfl, rfl, trivial⟩ (Hle.refl _) ?_
  rintro k ⟨hk, hok⟩
  repeat' (first | refine d1 ?_ | refine dd ?_ | (show ∀ _ : Nat, T _ _ _ _ _; intro _))
  refine T_if rfl (fun h1 => ?_) (fun h1 => ?_)
  · simp only [decide_eq_true_eq] at h1
    repeat' (first | refine d1 ?_ | refine dd ?_ | (show T _ (.ops _ (_ :: _) :: _) _ _ _; first | refine T_call rfl rfl rfl rfl rfl (fun w hw => kindRef_spec _ w) ?_ | refine T_callC rfl rfl rfl rfl rfl rfl rfl (fun hg w hw => kindRef_spec _ w) ?_) | (show T _ (.run _ _ (_ :: _) _ _ :: _) _ _ _; first | refine rc rfl rfl rfl rfl rfl rfl rfl (fun w hw => kindRef_spec _ w) ?_ | refine rcG rfl rfl rfl rfl rfl rfl rfl rfl rfl (fun hg w hw => kindRef_spec _ w) ?_) | (show ∀ _ : Nat, T _ _ _ _ _; intro _))
    refine T_loadC (v := .bool (rtAt s k)) rfl rfl rfl rfl rfl rfl rfl (fun hg => rdRow (A := some ⟨x.1, 0, none⟩) (by omega) (get1 ?_)) ?_
    · rw [show 0 + (k : Int).toNat * 1 = k by omega]
      exact rts_get (by omega)
    have hst : (decide (kindI (byteAt s (k : Int)).toNat = 0) || (decide (kindI (byteAt s (k : Int)).toNat = 2) && !rtAt s k)) = !okAt s k := by
      unfold okAt rtAt kAt
      generalize kindI (byteAt s (k : Int)).toNat = q
      by_cases h0 : q = 0 <;> by_cases h2 : q = 2 <;> cases canAt s k <;> simp [h0, h2] <;> omega
    repeat' (first | refine d1 ?_ | refine dd ?_ | (show ∀ _ : Nat, T _ _ _ _ _; intro _))
    refine T_if rfl (fun h2 => ?_) (fun h2 => ?_)
    · rw [hst, Bool.not_eq_true'] at h2
      repeat' (first | refine d1 ?_ | refine dd ?_ | (show ∀ _ : Nat, T _ _ _ _ _; intro _) | (show T _ (.code .ret :: _) _ _ _; refine T_retV [] rfl (Hle.none _) ⟨?_, rfl⟩))
      unfold checkS; rw [if_neg h, okAll_false (by omega) h2]; rfl
    · rw [hst, Bool.not_eq_false'] at h2
      repeat' (first | refine d1 ?_ | refine dd ?_ | (show ∀ _ : Nat, T _ _ _ _ _; intro _))
      refine T_back (k + 1) ⟨by omega, fun j hj => ?_⟩ (by omega) ⟨rfl, rfl, rfl, trivial⟩ (Hle.refl _)
      rcases Nat.lt_or_ge j k with h3 | h3
      · exact hok j h3
      · rw [show j = k by omega]; exact h2
  · simp only [decide_eq_false_iff_not] at h1
    repeat' (first | refine d1 ?_ | refine dd ?_ | (show ∀ _ : Nat, T _ _ _ _ _; intro _) | (show T _ (.code .ret :: _) _ _ _; refine T_retV [] rfl (Hle.none _) ⟨?_, rfl⟩))
    unfold checkS; rw [if_neg h, okAll_true (fun j hj => hok j (by omega))]; rfl

theorem isWordRef_spec (s : ByteArray) (w : World) : Spec Tryz.prog 73 [.string s] w (fun v A => v = .bool (isWordB s) ∧ A = []) := by
  refine spec_of sg Tryz.func73 rfl rfl rfl ?_
  repeat' (first | refine d1 ?_ | refine dd ?_ | (show T _ (.ops _ (_ :: _) :: _) _ _ _; first | refine T_call rfl rfl rfl rfl rfl (fun w hw => checkRef_spec s w) ?_ | refine T_callC rfl rfl rfl rfl rfl rfl rfl (fun hg w hw => checkRef_spec s w) ?_) | (show T _ (.run _ _ (_ :: _) _ _ :: _) _ _ _; first | refine rc rfl rfl rfl rfl rfl rfl rfl (fun w hw => checkRef_spec s w) ?_ | refine rcG rfl rfl rfl rfl rfl rfl rfl rfl rfl (fun hg w hw => checkRef_spec s w) ?_) | (show ∀ _ : Nat, T _ _ _ _ _; intro _))
  refine T_if rfl (fun h => ?_) (fun h => ?_)
  · repeat' (first | refine d1 ?_ | refine dd ?_ | (show ∀ _ : Nat, T _ _ _ _ _; intro _) | (show T _ (.code .ret :: _) _ _ _; refine T_retV [] rfl (Hle.refl _) ⟨congrArg Value.bool ?_, rfl⟩))
    simp only [Bool.or_eq_true, decide_eq_true_eq, Bool.not_eq_true', decide_eq_false_iff_not] at h
    unfold isWordB
    by_cases h1 : 1 ≤ s.size ∧ s.size ≤ 64
    · have h2 : okAll s = false := by
        cases h3 : okAll s with
        | false => rfl
        | true => unfold checkS at h; rw [if_neg (by omega), h3] at h; simp at h; omega
      simp [h2]
    · simp [h1]
  simp only [Bool.or_eq_false_iff, decide_eq_false_iff_not, Bool.not_eq_false', decide_eq_true_eq] at h
  have h1 : 1 ≤ s.size ∧ s.size ≤ 64 := by omega
  have h2 : okAll s = true := by
    cases h3 : okAll s with
    | true => rfl
    | false => have h4 := h.2; unfold checkS at h4; rw [if_neg (by omega), h3] at h4; simp at h4
  repeat' (first | refine d1 ?_ | refine dd ?_ | (show T _ (.ops _ (_ :: _) :: _) _ _ _; first | refine T_call rfl rfl rfl rfl rfl (fun w hw => kindRef_spec _ w) ?_ | refine T_callC rfl rfl rfl rfl rfl rfl rfl (fun hg w hw => kindRef_spec _ w) ?_) | (show T _ (.run _ _ (_ :: _) _ _ :: _) _ _ _; first | refine rc rfl rfl rfl rfl rfl rfl rfl (fun w hw => kindRef_spec _ w) ?_ | refine rcG rfl rfl rfl rfl rfl rfl rfl rfl rfl (fun hg w hw => kindRef_spec _ w) ?_) | (show ∀ _ : Nat, T _ _ _ _ _; intro _))
  refine T_if rfl (fun h3 => ?_) (fun h3 => ?_)
  · repeat' (first | refine d1 ?_ | refine dd ?_ | (show ∀ _ : Nat, T _ _ _ _ _; intro _) | (show T _ (.code .ret :: _) _ _ _; refine T_retV [] rfl (Hle.refl _) ⟨congrArg Value.bool ?_, rfl⟩))
    have h4 : (decide (kAt s 0 = 1) || decide (kAt s 0 = 3)) = false := by
      simp only [Bool.and_eq_true, Bool.not_eq_true'] at h3
      rw [Bool.or_eq_false_iff]; exact h3
    unfold isWordB
    simp [h4]
  have h4 : (decide (kAt s 0 = 1) || decide (kAt s 0 = 3)) = true := by
    simp only [Bool.and_eq_false_iff, Bool.not_eq_false'] at h3
    rw [Bool.or_eq_true]; exact h3
  repeat' (first | refine d1 ?_ | refine dd ?_ | (show ∀ _ : Nat, T _ _ _ _ _; intro _))
  refine T_loop (fun k : Nat => [(0, .string s), (4, .int .i64 k)]) (fun _ => []) (fun k => k ≤ s.size ∧ ∀ j, j < k → kAt s j ≤ 4) (fun k => s.size - k) 0 ⟨by omega, fun j h => by omega⟩ ⟨rfl, rfl, trivial⟩ (Hle.refl _) ?_
  rintro k ⟨hk, hok⟩
  repeat' (first | refine d1 ?_ | refine dd ?_ | (show ∀ _ : Nat, T _ _ _ _ _; intro _))
  refine T_if rfl (fun h5 => ?_) (fun h5 => ?_)
  · simp only [decide_eq_true_eq] at h5
    repeat' (first | refine d1 ?_ | refine dd ?_ | (show T _ (.ops _ (_ :: _) :: _) _ _ _; first | refine T_call rfl rfl rfl rfl rfl (fun w hw => kindRef_spec _ w) ?_ | refine T_callC rfl rfl rfl rfl rfl rfl rfl (fun hg w hw => kindRef_spec _ w) ?_) | (show T _ (.run _ _ (_ :: _) _ _ :: _) _ _ _; first | refine rc rfl rfl rfl rfl rfl rfl rfl (fun w hw => kindRef_spec _ w) ?_ | refine rcG rfl rfl rfl rfl rfl rfl rfl rfl rfl (fun hg w hw => kindRef_spec _ w) ?_) | (show ∀ _ : Nat, T _ _ _ _ _; intro _))
    refine T_if rfl (fun h6 => ?_) (fun h6 => ?_)
    · simp only [decide_eq_true_eq] at h6
      repeat' (first | refine d1 ?_ | refine dd ?_ | (show ∀ _ : Nat, T _ _ _ _ _; intro _) | (show T _ (.code .ret :: _) _ _ _; refine T_retV [] rfl (Hle.refl _) ⟨congrArg Value.bool ?_, rfl⟩))
      have h7 : ¬ ∀ j, j < s.size → kAt s j ≤ 4 := fun hh => by have := hh k (by omega); unfold kAt at this; omega
      unfold isWordB
      simp [h7]
    · simp only [decide_eq_false_iff_not] at h6
      repeat' (first | refine d1 ?_ | refine dd ?_ | (show ∀ _ : Nat, T _ _ _ _ _; intro _))
      refine T_back (k + 1) ⟨by omega, fun j hj => ?_⟩ (by omega) ⟨rfl, rfl, trivial⟩ (Hle.refl _)
      rcases Nat.lt_or_ge j k with h7 | h7
      · exact hok j h7
      · rw [show j = k by omega]; unfold kAt; omega
  · simp only [decide_eq_false_iff_not] at h5
    repeat' (first | refine d1 ?_ | refine dd ?_ | (show ∀ _ : Nat, T _ _ _ _ _; intro _) | (show T _ (.code .ret :: _) _ _ _; refine T_retV [] rfl (Hle.refl _) ⟨congrArg Value.bool ?_, rfl⟩))
    unfold isWordB
    have h7 : ∀ j, j < s.size → kAt s j ≤ 4 := fun j hj => hok j (by omega)
    rw [decide_eq_true h1, h2, h4, decide_eq_true h7]; rfl

theorem isNameRef_spec (s : ByteArray) (w : World) : Spec Tryz.prog 87 [.string s] w (fun v A => v = .bool (isNameB s) ∧ A = []) := by
  refine spec_of sg Tryz.func87 rfl rfl rfl ?_
  repeat' (first | refine d1 ?_ | refine dd ?_ | (show T _ (.ops _ (_ :: _) :: _) _ _ _; first | refine T_call rfl rfl rfl rfl rfl (fun w hw => isWordRef_spec s w) ?_ | refine T_callC rfl rfl rfl rfl rfl rfl rfl (fun hg w hw => isWordRef_spec s w) ?_ | refine T_call rfl rfl rfl rfl rfl (fun w hw => lettersRef_spec s w (by ((simp only [List.cons_append, List.nil_append, GP, dstL, lookE, Nat.beq, cond, List.getElem?_cons_zero, List.getElem?_cons_succ, Option.bind_some, and_true, Bool.and_eq_true, Bool.or_eq_true, Bool.and_eq_false_iff, Bool.or_eq_false_iff, Bool.not_eq_true', Bool.not_eq_false', decide_eq_true_eq, decide_eq_false_iff_not] at hg); omega))) ?_ | refine T_callC rfl rfl rfl rfl rfl rfl rfl (fun hg w hw => lettersRef_spec s w (by ((simp only [List.cons_append, List.nil_append, GP, dstL, lookE, Nat.beq, cond, List.getElem?_cons_zero, List.getElem?_cons_succ, Option.bind_some, and_true, Bool.and_eq_true, Bool.or_eq_true, Bool.and_eq_false_iff, Bool.or_eq_false_iff, Bool.not_eq_true', Bool.not_eq_false', decide_eq_true_eq, decide_eq_false_iff_not] at hg); omega))) ?_) | (show T _ (.run _ _ (_ :: _) _ _ :: _) _ _ _; first | refine rc rfl rfl rfl rfl rfl rfl rfl (fun w hw => isWordRef_spec s w) ?_ | refine rcG rfl rfl rfl rfl rfl rfl rfl rfl rfl (fun hg w hw => isWordRef_spec s w) ?_ | refine rc rfl rfl rfl rfl rfl rfl rfl (fun w hw => lettersRef_spec s w (by ((simp only [List.cons_append, List.nil_append, GP, dstL, lookE, Nat.beq, cond, List.getElem?_cons_zero, List.getElem?_cons_succ, Option.bind_some, and_true, Bool.and_eq_true, Bool.or_eq_true, Bool.and_eq_false_iff, Bool.or_eq_false_iff, Bool.not_eq_true', Bool.not_eq_false', decide_eq_true_eq, decide_eq_false_iff_not] at hg); omega))) ?_ | refine rcG rfl rfl rfl rfl rfl rfl rfl rfl rfl (fun hg w hw => lettersRef_spec s w (by ((simp only [List.cons_append, List.nil_append, GP, dstL, lookE, Nat.beq, cond, List.getElem?_cons_zero, List.getElem?_cons_succ, Option.bind_some, and_true, Bool.and_eq_true, Bool.or_eq_true, Bool.and_eq_false_iff, Bool.or_eq_false_iff, Bool.not_eq_true', Bool.not_eq_false', decide_eq_true_eq, decide_eq_false_iff_not] at hg); omega))) ?_) | (show ∀ _ : Nat, T _ _ _ _ _; intro _) | (show T _ (.code .ret :: _) _ _ _; refine T_retV [] rfl (Hle.refl _) ⟨congrArg Value.bool ?_, rfl⟩))
  unfold isNameB
  rw [Bool.and_assoc]
  congr 1
  simp only [decide_eq_decide]; omega

theorem wordlyRef_spec (c : Int) (w : World) : Spec Tryz.prog 74 [.int .u8 c] w (fun v A => v = .bool (wordlyK (kindI c)) ∧ A = []) := by
  refine spec_of sg Tryz.func74 rfl rfl rfl ?_
  repeat' (first | refine d1 ?_ | refine dd ?_ | (show T _ (.ops _ (_ :: _) :: _) _ _ _; first | refine T_call rfl rfl rfl rfl rfl (fun w hw => kindRef_spec c w) ?_ | refine T_callC rfl rfl rfl rfl rfl rfl rfl (fun hg w hw => kindRef_spec c w) ?_) | (show T _ (.run _ _ (_ :: _) _ _ :: _) _ _ _; first | refine rc rfl rfl rfl rfl rfl rfl rfl (fun w hw => kindRef_spec c w) ?_ | refine rcG rfl rfl rfl rfl rfl rfl rfl rfl rfl (fun hg w hw => kindRef_spec c w) ?_) | (show ∀ _ : Nat, T _ _ _ _ _; intro _) | (show T _ (.code .ret :: _) _ _ _; refine T_retV [] rfl (Hle.refl _) ⟨rfl, rfl⟩))

theorem namedRef_spec (s : ByteArray) (w : World) : Spec Tryz.prog 75 [.string s] w (fun v A => v = .bool (namedB s) ∧ A = []) := by
  refine spec_of sg Tryz.func75 rfl rfl rfl ?_
  repeat' (first | refine d1 ?_ | refine dd ?_ | (show T _ (.ops _ (_ :: _) :: _) _ _ _; first | refine T_call rfl rfl rfl rfl rfl (fun w hw => isNameRef_spec s w) ?_ | refine T_callC rfl rfl rfl rfl rfl rfl rfl (fun hg w hw => isNameRef_spec s w) ?_) | (show T _ (.run _ _ (_ :: _) _ _ :: _) _ _ _; first | refine rc rfl rfl rfl rfl rfl rfl rfl (fun w hw => isNameRef_spec s w) ?_ | refine rcG rfl rfl rfl rfl rfl rfl rfl rfl rfl (fun hg w hw => isNameRef_spec s w) ?_) | (show ∀ _ : Nat, T _ _ _ _ _; intro _) | (show T _ (.code .ret :: _) _ _ _; refine T_retV [] rfl (Hle.refl _) ⟨rfl, rfl⟩))
end Go.Proofs.YtmcgificpaeipaaGreatDoor
/- Walks: a token, by the reference. -/
namespace Go.Proofs.YtmcgificpaeipaaGreatDoor
open Go.RowKit Go.Shelf Go.Proofs
set_option maxRecDepth 100000
set_option maxHeartbeats 1000000

theorem Calls.spec {P : Program} {f : FuncId} {args : List Value} {w : World} {v : Value} (he : Enters P f) (h : Calls P f args.toArray w fun e w' => e = .returned v ∧ w' = w) : Spec P f args w (fun u A => u = v ∧ A = []) :=
  ⟨he, h.mono fun _ _ ⟨h1, h2⟩ => ⟨v, [], h1, ⟨rfl, rfl⟩, by rw [h2]; exact Below.refl _ _, Sep.nil _ _⟩⟩
theorem itoa_spec (i : Nat) (hi : i < 100) (w : World) : Spec Tryz.prog 85 [.int .i64 (i : Int)] w (fun v A => v = .string ⟨(Lib.decDigits i).toArray⟩ ∧ A = []) :=
  Calls.spec (enters_of rfl rfl rfl) (Tryz.strconv_Itoa_small i hi w)

theorem gappedRef_spec (s : ByteArray) (w : World) : Spec Tryz.prog 71 [.string s] w (fun v A => v = .bool (gappedB s) ∧ A = []) := by
  refine spec_of sg Tryz.func71 rfl rfl rfl ?_
  repeat' (first | refine d1 ?_ | refine dd ?_ | (show ∀ _ : Nat, T _ _ _ _ _; intro _))
  refine T_loop (fun k : Nat => [(0, .string s), (3, .int .i64 k)]) (fun _ => []) (fun k => (1 ≤ k ∧ k ≤ 65) ∧ ∀ n, 1 ≤ n → n < k → s ≠ gapStr n) (fun k => 65 - k) 1 ⟨by omega, fun n h => by omega⟩ ⟨rfl, rfl, trivial⟩ (Hle.refl _) ?_
  rintro k ⟨hk, hn⟩
  repeat' (first | refine d1 ?_ | refine dd ?_ | (show ∀ _ : Nat, T _ _ _ _ _; intro _))
  refine T_if rfl (fun h => ?_) (fun h => ?_)
  · simp only [decide_eq_true_eq] at h
    have hsz := decDigits_len k (by omega)
    repeat' (first | refine d1 ?_ | refine dd ?_ | (show T _ (.ops _ (_ :: _) :: _) _ _ _; first | refine T_call rfl rfl rfl rfl rfl (fun w hw => itoa_spec k (by omega) w) ?_ | refine T_callC rfl rfl rfl rfl rfl rfl rfl (fun hg w hw => itoa_spec k (by omega) w) ?_ | refine T_vc rfl rfl rfl rfl rfl (by simp [ByteArray.size]; omega) ?_) | (show T _ (.run _ _ (_ :: _) _ _ :: _) _ _ _; first | refine rc rfl rfl rfl rfl rfl rfl rfl (fun w hw => itoa_spec k (by omega) w) ?_ | refine rcG rfl rfl rfl rfl rfl rfl rfl rfl rfl (fun hg w hw => itoa_spec k (by omega) w) ?_) | (show ∀ _ : Nat, T _ _ _ _ _; intro _))
    refine T_if rfl (fun h2 => ?_) (fun h2 => ?_)
    · simp only [decide_eq_true_eq] at h2
      repeat' (first | refine d1 ?_ | refine dd ?_ | (show ∀ _ : Nat, T _ _ _ _ _; intro _) | (show T _ (.code .ret :: _) _ _ _; refine T_retV [] rfl (Hle.refl _) ⟨congrArg Value.bool (gappedB_true (by omega) hk.1 h2).symm, rfl⟩))
    · simp only [decide_eq_false_iff_not] at h2
      repeat' (first | refine d1 ?_ | refine dd ?_ | (show ∀ _ : Nat, T _ _ _ _ _; intro _))
      refine T_back (k + 1) ⟨by omega, fun n h3 h4 => ?_⟩ (by omega) ⟨rfl, rfl, trivial⟩ (Hle.refl _)
      rcases Nat.lt_or_ge n k with h5 | h5
      · exact hn n h3 h5
      · rw [show n = k by omega]; exact h2
  · simp only [decide_eq_false_iff_not] at h
    repeat' (first | refine d1 ?_ | refine dd ?_ | (show ∀ _ : Nat, T _ _ _ _ _; intro _) | (show T _ (.code .ret :: _) _ _ _; refine T_retV [] rfl (Hle.refl _) ⟨congrArg Value.bool (gappedB_false (fun n h1 h2 => hn n h2 (by omega))).symm, rfl⟩))

theorem hasRef15_spec (t : Tok) (n : Int) (hn : n = 2 ∨ n = 8) (h0 : 0 ≤ t.flags ∧ t.flags ≤ 31) (w : World) : Spec Tryz.prog 70 [t.val, .int .i64 n] w (fun v A => v = .bool (hasN t.flags n) ∧ A = []) := by
  refine spec_of sg Tryz.func70 rfl rfl rfl ?_
  rcases hn with rfl | rfl
  · repeat' (first | (show T _ (.ops _ (⟨_, .box _ _, _, _, _, _⟩ :: _) :: _) _ _ _; refine T_op (OpT.box (cs := t.cells) rfl rfl rfl rfl rfl rfl rfl (fun _ => ?_))) | refine d1 ?_ | refine dd ?_ | (show ∀ _ : Nat, T _ _ _ _ _; intro _) | (show T _ (.code .ret :: _) _ _ _; refine T_retV [] rfl (Hle.none _) ⟨rfl, rfl⟩))
  · repeat' (first | (show T _ (.ops _ (⟨_, .box _ _, _, _, _, _⟩ :: _) :: _) _ _ _; refine T_op (OpT.box (cs := t.cells) rfl rfl rfl rfl rfl rfl rfl (fun _ => ?_))) | refine d1 ?_ | refine dd ?_ | (show ∀ _ : Nat, T _ _ _ _ _; intro _) | (show T _ (.code .ret :: _) _ _ _; refine T_retV [] rfl (Hle.none _) ⟨rfl, rfl⟩))
theorem hasRef17_spec (t : Tok) (n : Int) (hn : n = 2 ∨ n = 8) (h0 : 0 ≤ t.flags ∧ t.flags ≤ 31) (w : World) : Spec Tryz.prog 120 [t.val, .int .i64 n] w (fun v A => v = .bool (hasN t.flags n) ∧ A = []) := by
  refine spec_of sg Tryz.func120 rfl rfl rfl ?_
  rcases hn with rfl | rfl
  · repeat' (first | (show T _ (.ops _ (⟨_, .box _ _, _, _, _, _⟩ :: _) :: _) _ _ _; refine T_op (OpT.box (cs := t.cells) rfl rfl rfl rfl rfl rfl rfl (fun _ => ?_))) | refine d1 ?_ | refine dd ?_ | (show ∀ _ : Nat, T _ _ _ _ _; intro _) | (show T _ (.code .ret :: _) _ _ _; refine T_retV [] rfl (Hle.none _) ⟨rfl, rfl⟩))
  · repeat' (first | (show T _ (.ops _ (⟨_, .box _ _, _, _, _, _⟩ :: _) :: _) _ _ _; refine T_op (OpT.box (cs := t.cells) rfl rfl rfl rfl rfl rfl rfl (fun _ => ?_))) | refine d1 ?_ | refine dd ?_ | (show ∀ _ : Nat, T _ _ _ _ _; intro _) | (show T _ (.code .ret :: _) _ _ _; refine T_retV [] rfl (Hle.none _) ⟨rfl, rfl⟩))

theorem tokRef_spec (t : Tok) (w : World) : Spec Tryz.prog 43 [t.val] w (fun v A => v = .int .i64 (tokE t) ∧ A = []) := by
  refine spec_of sg Tryz.func43 rfl rfl rfl ?_
  repeat' (first | (show T _ (.ops _ (⟨_, .box _ _, _, _, _, _⟩ :: _) :: _) _ _ _; refine T_op (OpT.box (cs := t.cells) rfl rfl rfl rfl rfl rfl rfl (fun _ => ?_))) | refine d1 ?_ | refine dd ?_ | (show ∀ _ : Nat, T _ _ _ _ _; intro _))
  rename_i b
  refine T_if rfl (fun h => ?_) (fun h => ?_)
  · repeat' (first | refine d1 ?_ | refine dd ?_ | (show ∀ _ : Nat, T _ _ _ _ _; intro _) | (show T _ (.code .ret :: _) _ _ _; refine T_retV [] rfl (Hle.none _) ⟨?_, rfl⟩))
    simp only [Bool.or_eq_true, decide_eq_true_eq] at h
    unfold tokE; rw [if_pos h]; rfl
  simp only [Bool.or_eq_false_iff, decide_eq_false_iff_not] at h
  refine T_draw 1000 [blk b t.cells 48] ?_
  refine T_dval 0 rfl (by kernel_rfl) (by kernel_rfl) (by kernel_rfl) (by kernel_rfl) (by kernel_rfl) rfl rfl (by first | exact Val.pure rfl | exact Val.vc rfl (fun hg => by first | omega | (simp only [inK]; omega) | exact True.intro | assumption) | exact Val.load rfl (fun _ => rdOwn1 rfl) | exact Val.loadA rfl (fun _ => rdAll) rfl) rfl rfl rfl (by first | exact Hle.refl _ | exact Hle.none _) ?_
  refine T_dval 2 rfl (by kernel_rfl) (by kernel_rfl) (by kernel_rfl) (by kernel_rfl) (by kernel_rfl) rfl rfl (by first | exact Val.pure rfl | exact Val.vc rfl (fun hg => by first | omega | (simp only [inK]; omega) | exact True.intro | assumption) | exact Val.load rfl (fun _ => rdOwn1 rfl) | exact Val.loadA rfl (fun _ => rdAll) rfl) rfl rfl rfl (by first | exact Hle.refl _ | exact Hle.none _) ?_
  refine T_dop 1 (by kernel_rfl) rfl (OpT.callV rfl rfl rfl rfl rfl (fun w hw => hasRef15_spec t 2 (.inl rfl) (by omega) w) ⟨fun _ => (by first | exact Hle.refl _ | exact Hle.none _), ?_⟩)
  refine T_dop 3 (by kernel_rfl) rfl (OpT.callV rfl rfl rfl rfl rfl (fun w hw => hasRef15_spec t 8 (.inr rfl) (by omega) w) ⟨fun _ => (by first | exact Hle.refl _ | exact Hle.none _), ?_⟩)
  refine T_dval 4 rfl (by kernel_rfl) (by kernel_rfl) (by kernel_rfl) (by kernel_rfl) (by kernel_rfl) rfl rfl (by first | exact Val.pure rfl | exact Val.vc rfl (fun hg => by first | omega | (simp only [inK]; omega) | exact True.intro | assumption) | exact Val.load rfl (fun _ => rdOwn1 rfl) | exact Val.loadA rfl (fun _ => rdAll) rfl) rfl rfl rfl (by first | exact Hle.refl _ | exact Hle.none _) ?_
  refine T_dval 5 rfl (by kernel_rfl) (by kernel_rfl) (by kernel_rfl) (by kernel_rfl) (by kernel_rfl) rfl rfl (by first | exact Val.pure rfl | exact Val.vc rfl (fun hg => by first | omega | (simp only [inK]; omega) | exact True.intro | assumption) | exact Val.load rfl (fun _ => rdOwn1 rfl) | exact Val.loadA rfl (fun _ => rdAll) rfl) rfl rfl rfl (by first | exact Hle.refl _ | exact Hle.none _) ?_
  refine T_dend (by kernel_rfl) ?_
  have e1 : ¬ (t.flags < 0 ∨ 31 < t.flags) := by omega
  repeat' (first | refine d1 ?_ | refine dd ?_ | (show ∀ _ : Nat, T _ _ _ _ _; intro _))
  refine T_if rfl (fun h2 => ?_) (fun h2 => ?_)
  · repeat' (first | refine d1 ?_ | refine dd ?_ | (show ∀ _ : Nat, T _ _ _ _ _; intro _) | (show T _ (.code .ret :: _) _ _ _; refine T_retV [] rfl (Hle.none _) ⟨?_, rfl⟩))
    unfold tokE; rw [if_neg e1, if_pos h2]; rfl
  have e2 : ¬ ((hasN t.flags 2 && hasN t.flags 8) = true) := by rw [h2]; simp
  show T _ [_, _, _, _] _ _ _
  refine T_cutAt 3 (fun _ : Unit => [(1, .pointer (some ⟨b, 0, none⟩))]) (fun _ => [blk b t.cells 48]) (fun _ => formBad t = false) rfl ?_ ?_
  · have done : formBad t = true → tokE t = 11 := fun hb => by unfold tokE; rw [if_neg e1, if_neg e2, if_pos hb]
    repeat' (first | refine d1 ?_ | refine dd ?_ | (show ∀ _ : Nat, T _ _ _ _ _; intro _))
    refine T_if rfl (fun h3 => ?_) (fun h3 => ?_)
    · repeat' (first | refine d1 ?_ | refine dd ?_ | (show T _ (.ops _ (_ :: _) :: _) _ _ _; first | refine T_call rfl rfl rfl rfl rfl (fun w hw => gappedRef_spec _ w) ?_ | refine T_callC rfl rfl rfl rfl rfl rfl rfl (fun hg w hw => gappedRef_spec _ w) ?_) | (show T _ (.run _ _ (_ :: _) _ _ :: _) _ _ _; first | refine rc rfl rfl rfl rfl rfl rfl rfl (fun w hw => gappedRef_spec _ w) ?_ | refine rcG rfl rfl rfl rfl rfl rfl rfl rfl rfl (fun hg w hw => gappedRef_spec _ w) ?_) | (show ∀ _ : Nat, T _ _ _ _ _; intro _))
      have hfb : formBad t = (!gappedB t.text || !decide (t.norm = t.text)) := by unfold formBad; rw [if_pos h3]
      refine T_if rfl (fun h4 => ?_) (fun h4 => ?_)
      · repeat' (first | refine d1 ?_ | refine dd ?_ | (show ∀ _ : Nat, T _ _ _ _ _; intro _) | (show T _ (.code .ret :: _) _ _ _; refine T_retV [] rfl (Hle.none _) ⟨congrArg (Value.int .i64) (done (hfb.trans h4)).symm, rfl⟩))
      · repeat' (first | refine d1 ?_ | refine dd ?_ | (show ∀ _ : Nat, T _ _ _ _ _; intro _) | (show T _ _ _ _ _; refine T_meet () (hfb.trans h4) ⟨rfl, trivial⟩ (Hle.refl _)))
    · have e3 : ¬ hasN t.flags 2 = true := by rw [h3]; simp
      repeat' (first | refine d1 ?_ | refine dd ?_ | (show ∀ _ : Nat, T _ _ _ _ _; intro _))
      refine T_if rfl (fun h4 => ?_) (fun h4 => ?_)
      · repeat' (first | refine d1 ?_ | refine dd ?_ | (show T _ (.ops _ (_ :: _) :: _) _ _ _; first | refine T_call rfl rfl rfl rfl rfl (fun w hw => kindRef_spec _ w) ?_ | refine T_callC rfl rfl rfl rfl rfl rfl rfl (fun hg w hw => kindRef_spec _ w) ?_) | (show T _ (.run _ _ (_ :: _) _ _ :: _) _ _ _; first | refine rc rfl rfl rfl rfl rfl rfl rfl (fun w hw => kindRef_spec _ w) ?_ | refine rcG rfl rfl rfl rfl rfl rfl rfl rfl rfl (fun hg w hw => kindRef_spec _ w) ?_) | (show ∀ _ : Nat, T _ _ _ _ _; intro _))
        have hfb : formBad t = (!decide ((t.text.size : Int) = 1) || (!decide (kAt t.text 0 = 5) && !decide (kAt t.text 0 = 4)) || !decide (t.norm = t.text)) := by unfold formBad; rw [if_neg e3, if_pos h4]
        refine T_if rfl (fun h5 => ?_) (fun h5 => ?_)
        · repeat' (first | refine d1 ?_ | refine dd ?_ | (show ∀ _ : Nat, T _ _ _ _ _; intro _) | (show T _ (.code .ret :: _) _ _ _; refine T_retV [] rfl (Hle.none _) ⟨congrArg (Value.int .i64) (done (hfb.trans h5)).symm, rfl⟩))
        · repeat' (first | refine d1 ?_ | refine dd ?_ | (show ∀ _ : Nat, T _ _ _ _ _; intro _) | (show T _ _ _ _ _; refine T_meet () (hfb.trans h5) ⟨rfl, trivial⟩ (Hle.refl _)))
      · have e4 : ¬ hasN t.flags 8 = true := by rw [h4]; simp
        have hfb : formBad t = (!isWordB t.text || decide (t.norm = ByteArray.mk #[]) || decide ((64 : Int) < t.norm.size) || !normB t.norm) := by unfold formBad; rw [if_neg e3, if_neg e4]
        repeat' (first | refine d1 ?_ | refine dd ?_ | (show T _ (.ops _ (_ :: _) :: _) _ _ _; first | refine T_call rfl rfl rfl rfl rfl (fun w hw => isWordRef_spec _ w) ?_ | refine T_callC rfl rfl rfl rfl rfl rfl rfl (fun hg w hw => isWordRef_spec _ w) ?_) | (show T _ (.run _ _ (_ :: _) _ _ :: _) _ _ _; first | refine rc rfl rfl rfl rfl rfl rfl rfl (fun w hw => isWordRef_spec _ w) ?_ | refine rcG rfl rfl rfl rfl rfl rfl rfl rfl rfl (fun hg w hw => isWordRef_spec _ w) ?_) | (show ∀ _ : Nat, T _ _ _ _ _; intro _))
        refine T_if rfl (fun h5 => ?_) (fun h5 => ?_)
        · repeat' (first | refine d1 ?_ | refine dd ?_ | (show ∀ _ : Nat, T _ _ _ _ _; intro _) | (show T _ (.code .ret :: _) _ _ _; refine T_retV [] rfl (Hle.none _) ⟨congrArg (Value.int .i64) (done (hfb.trans ?_)).symm, rfl⟩))
          rw [show (!isWordB t.text || decide (t.norm = ByteArray.mk #[]) || decide ((64 : Int) < t.norm.size)) = true from h5]; rfl
        have h6 : t.norm.size ≤ 64 := by
          simp only [Bool.or_eq_false_iff, decide_eq_false_iff_not] at h5
          have := h5.2
          omega
        repeat' (first | refine d1 ?_ | refine dd ?_ | (show ∀ _ : Nat, T _ _ _ _ _; intro _))
        refine T_loop (fun k : Nat => [(1, .pointer (some ⟨b, 0, none⟩)), (5, .int .i64 k)]) (fun _ => [blk b t.cells 48]) (fun k => k ≤ t.norm.size ∧ ∀ j, j < k → wordlyK (kAt t.norm j) = true) (fun k => t.norm.size - k) 0 ⟨by omega, fun j h => by omega⟩ ⟨rfl, rfl, trivial⟩ (Hle.refl _) ?_
        rintro k ⟨hk, hok⟩
        repeat' (first | refine d1 ?_ | refine dd ?_ | (show ∀ _ : Nat, T _ _ _ _ _; intro _))
        refine T_if rfl (fun h7 => ?_) (fun h7 => ?_)
        · simp only [decide_eq_true_eq] at h7
          repeat' (first | refine d1 ?_ | refine dd ?_ | (show T _ (.ops _ (_ :: _) :: _) _ _ _; first | refine T_call rfl rfl rfl rfl rfl (fun w hw => wordlyRef_spec _ w) ?_ | refine T_callC rfl rfl rfl rfl rfl rfl rfl (fun hg w hw => wordlyRef_spec _ w) ?_) | (show T _ (.run _ _ (_ :: _) _ _ :: _) _ _ _; first | refine rc rfl rfl rfl rfl rfl rfl rfl (fun w hw => wordlyRef_spec _ w) ?_ | refine rcG rfl rfl rfl rfl rfl rfl rfl rfl rfl (fun hg w hw => wordlyRef_spec _ w) ?_) | (show ∀ _ : Nat, T _ _ _ _ _; intro _))
          refine T_if rfl (fun h8 => ?_) (fun h8 => ?_)
          · repeat' (first | refine d1 ?_ | refine dd ?_ | (show ∀ _ : Nat, T _ _ _ _ _; intro _) | (show T _ (.code .ret :: _) _ _ _; refine T_retV [] rfl (Hle.none _) ⟨congrArg (Value.int .i64) (done (hfb.trans ?_)).symm, rfl⟩))
            rw [Bool.not_eq_true'] at h8
            have : normB t.norm = false := by
              unfold normB
              rw [decide_eq_false_iff_not]
              intro hh
              have h9 := hh k (by omega)
              unfold kAt at h9
              rw [h8] at h9; cases h9
            rw [this]; simp
          · rw [Bool.not_eq_false'] at h8
            repeat' (first | refine d1 ?_ | refine dd ?_ | (show ∀ _ : Nat, T _ _ _ _ _; intro _))
            refine T_back (k + 1) ⟨by omega, fun j hj => ?_⟩ (by omega) ⟨rfl, rfl, trivial⟩ (Hle.refl _)
            rcases Nat.lt_or_ge j k with h9 | h9
            · exact hok j h9
            · rw [show j = k by omega]; exact h8
        · simp only [decide_eq_false_iff_not] at h7
          have h8 : normB t.norm = true := decide_eq_true (fun j hj => hok j (by omega))
          repeat' (first | refine d1 ?_ | refine dd ?_ | (show ∀ _ : Nat, T _ _ _ _ _; intro _) | (show T _ _ _ _ _; refine T_meet () (hfb.trans ?_) ⟨rfl, trivial⟩ (Hle.refl _)))
          rw [show (!isWordB t.text || decide (t.norm = ByteArray.mk #[]) || decide ((64 : Int) < t.norm.size)) = false from h5, h8]; rfl
  · rintro ⟨⟩ hfb
    have e3 : ¬ formBad t = true := by rw [hfb]; simp
    repeat' (first | refine d1 ?_ | refine dd ?_ | (show ∀ _ : Nat, T _ _ _ _ _; intro _))
    refine T_if rfl (fun h3 => ?_) (fun h3 => ?_)
    · repeat' (first | refine d1 ?_ | refine dd ?_ | (show ∀ _ : Nat, T _ _ _ _ _; intro _) | (show T _ (.code .ret :: _) _ _ _; refine T_retV [] rfl (Hle.none _) ⟨?_, rfl⟩))
      simp only [decide_eq_true_eq] at h3
      unfold tokE; rw [if_neg e1, if_neg e2, if_neg e3, if_pos h3]; rfl
    simp only [decide_eq_false_iff_not] at h3
    repeat' (first | refine d1 ?_ | refine dd ?_ | (show T _ (.ops _ (_ :: _) :: _) _ _ _; first | refine T_call rfl rfl rfl rfl rfl (fun w hw => namedRef_spec _ w) ?_ | refine T_callC rfl rfl rfl rfl rfl rfl rfl (fun hg w hw => namedRef_spec _ w) ?_) | (show T _ (.run _ _ (_ :: _) _ _ :: _) _ _ _; first | refine rc rfl rfl rfl rfl rfl rfl rfl (fun w hw => namedRef_spec _ w) ?_ | refine rcG rfl rfl rfl rfl rfl rfl rfl rfl rfl (fun hg w hw => namedRef_spec _ w) ?_) | (show ∀ _ : Nat, T _ _ _ _ _; intro _))
    refine T_if rfl (fun h4 => ?_) (fun h4 => ?_)
    · repeat' (first | refine d1 ?_ | refine dd ?_ | (show ∀ _ : Nat, T _ _ _ _ _; intro _) | (show T _ (.code .ret :: _) _ _ _; refine T_retV [] rfl (Hle.none _) ⟨?_, rfl⟩))
      unfold tokE; rw [if_neg e1, if_neg e2, if_neg e3, if_neg h3, if_pos h4]; rfl
    · repeat' (first | refine d1 ?_ | refine dd ?_ | (show ∀ _ : Nat, T _ _ _ _ _; intro _) | (show T _ (.code .ret :: _) _ _ _; refine T_retV [] rfl (Hle.none _) ⟨?_, rfl⟩))
      unfold tokE; rw [if_neg e1, if_neg e2, if_neg e3, if_neg h3, if_neg (by rw [h4]; simp)]; rfl
end Go.Proofs.YtmcgificpaeipaaGreatDoor
/- Walks: characters, words, names, by the program. -/
namespace Go.Proofs.YtmcgificpaeipaaGreatDoor
open Go.RowKit Go.Shelf Go.Proofs
set_option maxRecDepth 100000
set_option maxHeartbeats 1000000

theorem indexByte_spec (s : ByteArray) (c : Int) (w : World) : Spec Tryz.prog 113 [.string s, .int .u8 c] w (fun v A => v = .int .i64 (Lib.indexByte s.data.toList c.toNat.toUInt8) ∧ A = []) :=
  Calls.spec (enters_of rfl rfl rfl) (Tryz.strings_IndexByte s c w)

theorem kindPrg_spec (c : Int) (hc : 0 ≤ c ∧ c ≤ 255) (w : World) : Spec Tryz.prog 102 [.int .u8 c] w (fun v A => v = .int .i64 (kindI c) ∧ A = []) := by
  refine spec_of sg Tryz.func102 rfl rfl rfl ?_
  have hp := punct_all c.toNat (by omega)
  repeat' (first | refine d1 ?_ | refine dd ?_ | (show T _ (.ops _ (_ :: _) :: _) _ _ _; first | refine T_call rfl rfl rfl rfl rfl (fun w hw => indexByte_spec _ _ w) ?_ | refine T_callC rfl rfl rfl rfl rfl rfl rfl (fun hg w hw => indexByte_spec _ _ w) ?_) | (show T _ (.run _ _ (_ :: _) _ _ :: _) _ _ _; first | refine rc rfl rfl rfl rfl rfl rfl rfl (fun w hw => indexByte_spec _ _ w) ?_ | refine rcG rfl rfl rfl rfl rfl rfl rfl rfl rfl (fun hg w hw => indexByte_spec _ _ w) ?_) | (show ∀ _ : Nat, T _ _ _ _ _; intro _) | (show T _ (.code (.cond _ _ _) :: _) _ _ _; refine T_if rfl (fun h => ?_) (fun h => ?_)) | (show T _ (.code .ret :: _) _ _ _; refine T_retV [] rfl (Hle.refl _) ?_))
  all_goals refine ⟨congrArg (Value.int .i64) ?_, rfl⟩
  all_goals unfold punctL at hp
  all_goals simp only [Bool.or_eq_true, Bool.and_eq_true, decide_eq_true_eq, Bool.or_eq_false_iff, Bool.and_eq_false_iff, decide_eq_false_iff_not, Bool.not_eq_true', Bool.not_eq_false'] at *
  all_goals (generalize Lib.indexByte [46, 44, 59, 58, 33, 63, 40, 41, 45] c.toNat.toUInt8 = q at *; unfold kindI; (repeat' split) <;> omega)
theorem byteAt_bd (s : ByteArray) (i : Int) : 0 ≤ ((byteAt s i).toNat : Int) ∧ ((byteAt s i).toNat : Int) ≤ 255 := by
  have := (byteAt s i).toNat_lt
  omega

theorem lettersPrg_spec (s : ByteArray) (w : World) (hs : s.size ≤ 9223372036854775807) : Spec Tryz.prog 118 [.string s] w (fun v A => v = .int .i64 (lettersN s.data.toList) ∧ A = []) := by
  refine spec_of sg Tryz.func118 rfl rfl rfl ?_
  repeat' (first | refine d1 ?_ | refine dd ?_ | (show ∀ _ : Nat, T _ _ _ _ _; intro _))
  refine T_loop (fun k : Nat => [(0, .string s), (7, .int .i64 s.size), (3, .int .i64 (lettersN (s.data.toList.take k))), (8, .int .i64 k)]) (fun _ => []) (fun k => k ≤ s.size) (fun k => s.size - k) 0 (by omega) ⟨rfl, rfl, rfl, rfl, trivial⟩ (Hle.refl _) ?_
  intro k hk
  repeat' (first | refine d1 ?_ | refine dd ?_ | (show ∀ _ : Nat, T _ _ _ _ _; intro _))
  refine T_if rfl (fun h => ?_) (fun h => ?_)
  · simp only [decide_eq_true_eq] at h
    have hl := lettersN_le (s.data.toList.take k)
    have hl2 : (s.data.toList.take k).length ≤ k := by rw [List.length_take]; omega
    have hst := lettersN_take s k (by omega)
    repeat' (first | refine d1 ?_ | refine dd ?_ | (show T _ (.ops _ (_ :: _) :: _) _ _ _; first | refine T_call rfl rfl rfl rfl rfl (fun w hw => kindPrg_spec _ (byteAt_bd _ _) w) ?_ | refine T_callC rfl rfl rfl rfl rfl rfl rfl (fun hg w hw => kindPrg_spec _ (byteAt_bd _ _) w) ?_) | (show T _ (.run _ _ (_ :: _) _ _ :: _) _ _ _; first | refine rc rfl rfl rfl rfl rfl rfl rfl (fun w hw => kindPrg_spec _ (byteAt_bd _ _) w) ?_ | refine rcG rfl rfl rfl rfl rfl rfl rfl rfl rfl (fun hg w hw => kindPrg_spec _ (byteAt_bd _ _) w) ?_) | (show ∀ _ : Nat, T _ _ _ _ _; intro _) | (show T _ (.code (.cond _ _ _) :: _) _ _ _; refine T_if rfl (fun h => ?_) (fun h => ?_)) | (show T _ _ _ _ _; refine T_back (k + 1) (by omega) (by omega) ⟨rfl, rfl, ?_, rfl, trivial⟩ (Hle.refl _)))
    all_goals (refine congrArg (fun z : Int => some (Value.int .i64 z)) ?_; simp only [Bool.or_eq_true, Bool.or_eq_false_iff, decide_eq_true_eq, decide_eq_false_iff_not] at h; rw [hst]; unfold kAt; split <;> omega)
  · simp only [decide_eq_false_iff_not] at h
    have hk2 : k = s.size := by omega
    subst hk2
    repeat' (first | refine d1 ?_ | refine dd ?_ | (show ∀ _ : Nat, T _ _ _ _ _; intro _) | (show T _ (.code .ret :: _) _ _ _; refine T_retV [] rfl (Hle.refl _) ⟨?_, rfl⟩))
    rw [List.take_of_length_le (by simp)]
    rfl
theorem isNamePrg_spec (s : ByteArray) (hs : s.size ≤ 9223372036854775807) (w : World) : Spec Tryz.prog 107 [.string s] w (fun v A => v = .bool (isNameB s) ∧ A = []) := by
  refine spec_of sg Tryz.func107 rfl rfl rfl ?_
  repeat' (first | refine d1 ?_ | refine dd ?_ | (show T _ (.ops _ (_ :: _) :: _) _ _ _; first | refine T_call rfl rfl rfl rfl rfl (fun w hw => lettersPrg_spec s w hs) ?_ | refine T_callC rfl rfl rfl rfl rfl rfl rfl (fun hg w hw => lettersPrg_spec s w hs) ?_) | (show T _ (.run _ _ (_ :: _) _ _ :: _) _ _ _; first | refine rc rfl rfl rfl rfl rfl rfl rfl (fun w hw => lettersPrg_spec s w hs) ?_ | refine rcG rfl rfl rfl rfl rfl rfl rfl rfl rfl (fun hg w hw => lettersPrg_spec s w hs) ?_) | (show ∀ _ : Nat, T _ _ _ _ _; intro _) | (show T _ (.code .ret :: _) _ _ _; refine T_retV [] rfl (Hle.refl _) ⟨congrArg Value.bool ?_, rfl⟩))
  exact name_law s
theorem namedPrg_spec (s : ByteArray) (hs : s.size ≤ 9223372036854775807) (w : World) : Spec Tryz.prog 93 [.string s] w (fun v A => v = .bool (namedB s) ∧ A = []) := by
  refine spec_of sg Tryz.func93 rfl rfl rfl ?_
  repeat' (first | refine d1 ?_ | refine dd ?_ | (show T _ (.ops _ (_ :: _) :: _) _ _ _; first | refine T_call rfl rfl rfl rfl rfl (fun w hw => isNamePrg_spec s hs w) ?_ | refine T_callC rfl rfl rfl rfl rfl rfl rfl (fun hg w hw => isNamePrg_spec s hs w) ?_) | (show T _ (.run _ _ (_ :: _) _ _ :: _) _ _ _; first | refine rc rfl rfl rfl rfl rfl rfl rfl (fun w hw => isNamePrg_spec s hs w) ?_ | refine rcG rfl rfl rfl rfl rfl rfl rfl rfl rfl (fun hg w hw => isNamePrg_spec s hs w) ?_) | (show ∀ _ : Nat, T _ _ _ _ _; intro _) | (show T _ (.code .ret :: _) _ _ _; refine T_retV [] rfl (Hle.refl _) ⟨rfl, rfl⟩))
theorem beginsPrg_spec (c : Int) (hc : 0 ≤ c ∧ c ≤ 255) (w : World) : Spec Tryz.prog 117 [.int .u8 c] w (fun v A => v = .bool (beginsK (kindI c)) ∧ A = []) := by
  refine spec_of sg Tryz.func117 rfl rfl rfl ?_
  repeat' (first | refine d1 ?_ | refine dd ?_ | (show T _ (.ops _ (_ :: _) :: _) _ _ _; first | refine T_call rfl rfl rfl rfl rfl (fun w hw => kindPrg_spec c hc w) ?_ | refine T_callC rfl rfl rfl rfl rfl rfl rfl (fun hg w hw => kindPrg_spec c hc w) ?_) | (show T _ (.run _ _ (_ :: _) _ _ :: _) _ _ _; first | refine rc rfl rfl rfl rfl rfl rfl rfl (fun w hw => kindPrg_spec c hc w) ?_ | refine rcG rfl rfl rfl rfl rfl rfl rfl rfl rfl (fun hg w hw => kindPrg_spec c hc w) ?_) | (show ∀ _ : Nat, T _ _ _ _ _; intro _) | (show T _ (.code .ret :: _) _ _ _; refine T_retV [] rfl (Hle.refl _) ⟨rfl, rfl⟩))
theorem innerPrg_spec (c : Int) (hc : 0 ≤ c ∧ c ≤ 255) (w : World) : Spec Tryz.prog 106 [.int .u8 c] w (fun v A => v = .bool (wordlyK (kindI c)) ∧ A = []) := by
  refine spec_of sg Tryz.func106 rfl rfl rfl ?_
  repeat' (first | refine d1 ?_ | refine dd ?_ | (show T _ (.ops _ (_ :: _) :: _) _ _ _; first | refine T_call rfl rfl rfl rfl rfl (fun w hw => kindPrg_spec c hc w) ?_ | refine T_callC rfl rfl rfl rfl rfl rfl rfl (fun hg w hw => kindPrg_spec c hc w) ?_ | refine T_call rfl rfl rfl rfl rfl (fun w hw => beginsPrg_spec c hc w) ?_ | refine T_callC rfl rfl rfl rfl rfl rfl rfl (fun hg w hw => beginsPrg_spec c hc w) ?_) | (show T _ (.run _ _ (_ :: _) _ _ :: _) _ _ _; first | refine rc rfl rfl rfl rfl rfl rfl rfl (fun w hw => kindPrg_spec c hc w) ?_ | refine rcG rfl rfl rfl rfl rfl rfl rfl rfl rfl (fun hg w hw => kindPrg_spec c hc w) ?_ | refine rc rfl rfl rfl rfl rfl rfl rfl (fun w hw => beginsPrg_spec c hc w) ?_ | refine rcG rfl rfl rfl rfl rfl rfl rfl rfl rfl (fun hg w hw => beginsPrg_spec c hc w) ?_) | (show ∀ _ : Nat, T _ _ _ _ _; intro _) | (show T _ (.code .ret :: _) _ _ _; refine T_retV [] rfl (Hle.refl _) ⟨congrArg Value.bool (inner_law (kindI c)), rfl⟩))
theorem markPrg_spec (s : ByteArray) (w : World) : Spec Tryz.prog 90 [.string s] w (fun v A => v = .bool (decide ((s.size : Int) = 1) && (decide (kAt s 0 = 5) || decide (kAt s 0 = 4))) ∧ A = []) := by
  refine spec_of sg Tryz.func90 rfl rfl rfl ?_
  repeat' (first | refine d1 ?_ | refine dd ?_ | (show ∀ _ : Nat, T _ _ _ _ _; intro _))
  refine T_if rfl (fun h => ?_) (fun h => ?_)
  · repeat' (first | refine d1 ?_ | refine dd ?_ | (show ∀ _ : Nat, T _ _ _ _ _; intro _) | (show T _ (.code .ret :: _) _ _ _; refine T_retV [] rfl (Hle.refl _) ⟨congrArg Value.bool ?_, rfl⟩))
    rw [Bool.not_eq_true'] at h
    rw [h]; rfl
  · rw [Bool.not_eq_false'] at h
    have h1 : (s.size : Int) = 1 := by simpa using h
    repeat' (first | refine d1 ?_ | refine dd ?_ | (show T _ (.ops _ (_ :: _) :: _) _ _ _; first | refine T_call rfl rfl rfl rfl rfl (fun w hw => kindPrg_spec _ (byteAt_bd _ _) w) ?_ | refine T_callC rfl rfl rfl rfl rfl rfl rfl (fun hg w hw => kindPrg_spec _ (byteAt_bd _ _) w) ?_) | (show T _ (.run _ _ (_ :: _) _ _ :: _) _ _ _; first | refine rc rfl rfl rfl rfl rfl rfl rfl (fun w hw => kindPrg_spec _ (byteAt_bd _ _) w) ?_ | refine rcG rfl rfl rfl rfl rfl rfl rfl rfl rfl (fun hg w hw => kindPrg_spec _ (byteAt_bd _ _) w) ?_) | (show ∀ _ : Nat, T _ _ _ _ _; intro _) | (show T _ (.code .ret :: _) _ _ _; refine T_retV [] rfl (Hle.refl _) ⟨congrArg Value.bool ?_, rfl⟩))
    rw [h]; rfl
theorem normPrg_spec (s : ByteArray) (hs : s.size ≤ 9223372036854775807) (w : World) : Spec Tryz.prog 92 [.string s] w (fun v A => v = .bool (normB s && (!decide (s = ByteArray.mk #[]) && decide ((s.size : Int) ≤ 64))) ∧ A = []) := by
  refine spec_of sg Tryz.func92 rfl rfl rfl ?_
  repeat' (first | refine d1 ?_ | refine dd ?_ | (show ∀ _ : Nat, T _ _ _ _ _; intro _))
  refine T_loop (fun k : Nat => [(0, .string s), (5, .int .i64 s.size), (6, .int .i64 k)]) (fun _ => []) (fun k => k ≤ s.size ∧ ∀ j, j < k → wordlyK (kAt s j) = true) (fun k => s.size - k) 0 ⟨by omega, fun j h => by omega⟩ ⟨rfl, rfl, rfl, trivial⟩ (Hle.refl _) ?_
  rintro k ⟨hk, hok⟩
  repeat' (first | refine d1 ?_ | refine dd ?_ | (show ∀ _ : Nat, T _ _ _ _ _; intro _))
  refine T_if rfl (fun h => ?_) (fun h => ?_)
  · simp only [decide_eq_true_eq] at h
    repeat' (first | refine d1 ?_ | refine dd ?_ | (show T _ (.ops _ (_ :: _) :: _) _ _ _; first | refine T_call rfl rfl rfl rfl rfl (fun w hw => innerPrg_spec _ (byteAt_bd _ _) w) ?_ | refine T_callC rfl rfl rfl rfl rfl rfl rfl (fun hg w hw => innerPrg_spec _ (byteAt_bd _ _) w) ?_) | (show T _ (.run _ _ (_ :: _) _ _ :: _) _ _ _; first | refine rc rfl rfl rfl rfl rfl rfl rfl (fun w hw => innerPrg_spec _ (byteAt_bd _ _) w) ?_ | refine rcG rfl rfl rfl rfl rfl rfl rfl rfl rfl (fun hg w hw => innerPrg_spec _ (byteAt_bd _ _) w) ?_) | (show ∀ _ : Nat, T _ _ _ _ _; intro _))
    refine T_if rfl (fun h8 => ?_) (fun h8 => ?_)
    · repeat' (first | refine d1 ?_ | refine dd ?_ | (show ∀ _ : Nat, T _ _ _ _ _; intro _) | (show T _ (.code .ret :: _) _ _ _; refine T_retV [] rfl (Hle.refl _) ⟨congrArg Value.bool ?_, rfl⟩))
      rw [Bool.not_eq_true'] at h8
      have : normB s = false := by
        unfold normB
        rw [decide_eq_false_iff_not]
        intro hh
        have h9 := hh k (by omega)
        unfold kAt at h9
        rw [h8] at h9; cases h9
      rw [this]; rfl
    · rw [Bool.not_eq_false'] at h8
      repeat' (first | refine d1 ?_ | refine dd ?_ | (show ∀ _ : Nat, T _ _ _ _ _; intro _))
      refine T_back (k + 1) ⟨by omega, fun j hj => ?_⟩ (by omega) ⟨rfl, rfl, rfl, trivial⟩ (Hle.refl _)
      rcases Nat.lt_or_ge j k with h9 | h9
      · exact hok j h9
      · rw [show j = k by omega]; exact h8
  · simp only [decide_eq_false_iff_not] at h
    have h8 : normB s = true := decide_eq_true (fun j hj => hok j (by omega))
    repeat' (first | refine d1 ?_ | refine dd ?_ | (show ∀ _ : Nat, T _ _ _ _ _; intro _) | (show T _ (.code .ret :: _) _ _ _; refine T_retV [] rfl (Hle.refl _) ⟨congrArg Value.bool ?_, rfl⟩))
    rw [h8]; rfl
theorem isWordTok_spec (t : Tok) (h0 : 0 ≤ t.flags ∧ t.flags ≤ 31) (w : World) : Spec Tryz.prog 91 [t.val] w (fun v A => v = .bool (!hasN t.flags 2 && !hasN t.flags 8) ∧ A = []) := by
  refine spec_of sg Tryz.func91 rfl rfl rfl ?_
  repeat' (first | (show T _ (.ops _ (⟨_, .box _ _, _, _, _, _⟩ :: _) :: _) _ _ _; refine T_op (OpT.box (cs := t.cells) rfl rfl rfl rfl rfl rfl rfl (fun _ => ?_))) | refine d1 ?_ | refine dd ?_ | (show ∀ _ : Nat, T _ _ _ _ _; intro _) | (show T _ (.code .ret :: _) _ _ _; refine T_retV [] rfl (Hle.none _) ⟨congrArg Value.bool ?_, rfl⟩))
  exact (flags_law t.flags h0).2.2
theorem rightPrg_spec (s : ByteArray) (f i : Int) (hf : 0 ≤ f ∧ f < s.size) (w : World) : Spec Tryz.prog 127 [.string s, .int .i64 f, .int .i64 i] w (fun v A => v = .bool (decide (kindI (byteAt s f).toNat = 1) && decide (f < i)) ∧ A = []) := by
  refine spec_of sg Tryz.func127 rfl rfl rfl ?_
  repeat' (first | refine d1 ?_ | refine dd ?_ | (show T _ (.ops _ (_ :: _) :: _) _ _ _; first | refine T_call rfl rfl rfl rfl rfl (fun w hw => kindPrg_spec _ (byteAt_bd _ _) w) ?_ | refine T_callC rfl rfl rfl rfl rfl rfl rfl (fun hg w hw => kindPrg_spec _ (byteAt_bd _ _) w) ?_) | (show T _ (.run _ _ (_ :: _) _ _ :: _) _ _ _; first | refine rc rfl rfl rfl rfl rfl rfl rfl (fun w hw => kindPrg_spec _ (byteAt_bd _ _) w) ?_ | refine rcG rfl rfl rfl rfl rfl rfl rfl rfl rfl (fun hg w hw => kindPrg_spec _ (byteAt_bd _ _) w) ?_) | (show ∀ _ : Nat, T _ _ _ _ _; intro _) | (show T _ (.code .ret :: _) _ _ _; refine T_retV [] rfl (Hle.refl _) ⟨rfl, rfl⟩))

/-! ### Atoi -/
/-- What the library's own variables hold. -/
def Std (w : World) : Prop := ∃ tp p tq q, w.var? Tryz.prog "strconv.ErrSyntax" = some #[.iface tp p] ∧ w.var? Tryz.prog "strconv.ErrRange" = some #[.iface tq q]
theorem var_below {P : Program} {w w' : World} {n : String} {cs : Array Value} (hb : Below w.heap.size w w') (h : w.var? P n = some cs) : w'.var? P n = some cs := by
  unfold World.var? at h ⊢
  cases hg : P.globalNamed n with
  | none => rw [hg] at h; cases h
  | some g =>
    rw [hg] at h
    simp only [Option.bind_some] at h ⊢
    cases ho : w.heap[g]? with
    | none => rw [ho] at h; cases h
    | some o =>
      rw [hb.block g (lt_of_heap ho)]
      exact h
theorem Std.below {w w' : World} (h : Std w) (hb : Below w.heap.size w w') : Std w' := by
  obtain ⟨tp, p, tq, q, h1, h2⟩ := h
  exact ⟨tp, p, tq, q, var_below hb h1, var_below hb h2⟩
theorem Std.cls {w0 w : World} {H : List HA} (h : Std w0) (hw : Cls w0 w H) : Std w := h.below hw.below
theorem atoi_spec (s : ByteArray) (hs : s.size ≤ 281474976710656) (w : World) (hw : Std w) : Spec Tryz.prog 105 [.string s] w (fun v A =>
    (∃ n, Lib.atoiAll s.data.toList = .ok n ∧ v = .tuple #[.int .i64 n, .nilIface]) ∧ A = [] ∨ (∀ n, Lib.atoiAll s.data.toList ≠ .ok n) ∧ (∃ n tp p, v = .tuple #[.int .i64 n, .iface tp p]) ∧ A = []) := by
  refine ⟨enters_of rfl rfl rfl, ?_⟩
  obtain ⟨tp, p, tq, q, h1, h2⟩ := hw
  cases h : Lib.atoiAll s.data.toList
  · rename_i n
    refine (Tryz.strconv_Atoi_ok s (by omega) n h w).mono ?_
    rintro e w' ⟨rfl, hw'⟩
    refine ⟨_, [], rfl, .inl ⟨⟨n, rfl, rfl⟩, rfl⟩, ?_, Sep.nil _ _⟩
    rcases hw' with rfl | ⟨t, rfl⟩
    · exact Below.refl _ _
    · exact Lib.bytesWorld_below _ _ _
  · refine (Tryz.strconv_Atoi_syntax_var s hs h tp p w h1).mono ?_
    rintro e w' ⟨N, rfl, _, _, hb⟩
    exact ⟨_, [], rfl, .inr ⟨fun n hn => (by cases hn), ⟨_, _, _, rfl⟩, rfl⟩, hb, Sep.nil _ _⟩
  · refine (Tryz.strconv_Atoi_range_var s hs h tq q w h2).mono ?_
    rintro e w' ⟨N, rfl, _, _, hb⟩
    exact ⟨_, [], rfl, .inr ⟨fun n hn => (by cases hn), ⟨_, _, _, rfl⟩, rfl⟩, hb, Sep.nil _ _⟩
end Go.Proofs.YtmcgificpaeipaaGreatDoor
/- Walks: gaps, clusters, words, tokens, by the program. -/
namespace Go.Proofs.YtmcgificpaeipaaGreatDoor
open Go.RowKit Go.Shelf Go.Proofs
set_option maxRecDepth 100000
set_option maxHeartbeats 1000000

theorem itoa_spec' (n : Int) (h : 1 ≤ n ∧ n ≤ 64) (w : World) : Spec Tryz.prog 85 [.int .i64 n] w (fun v A => v = .string ⟨(Lib.decDigits n.toNat).toArray⟩ ∧ A = []) := by
  have := itoa_spec n.toNat (by omega) w
  rwa [Int.toNat_of_nonneg (by omega)] at this
theorem gapPrg_spec (s : ByteArray) (hs : s.size ≤ 65536) (w : World) (hw : Std w) : Spec Tryz.prog 89 [.string s] w (fun v A => v = .bool (gappedB s) ∧ A = []) := by
  refine spec_of sg Tryz.func89 rfl rfl rfl ?_
  repeat' (first | refine d1 ?_ | refine dd ?_ | (show ∀ _ : Nat, T _ _ _ _ _; intro _))
  refine T_if rfl (fun h => ?_) (fun h => ?_)
  · repeat' (first | refine d1 ?_ | refine dd ?_ | (show ∀ _ : Nat, T _ _ _ _ _; intro _) | (show T _ (.code .ret :: _) _ _ _; refine T_retV [] rfl (Hle.refl _) ⟨congrArg Value.bool ?_, rfl⟩))
    cases hg : gappedB s with
    | false => rfl
    | true =>
      obtain ⟨h1, h2, h3⟩ := gap_frame hg
      simp only [Bool.or_eq_true, decide_eq_true_eq, Bool.not_eq_true', decide_eq_false_iff_not] at h
      omega
  simp only [Bool.or_eq_false_iff, decide_eq_false_iff_not, Bool.not_eq_false', decide_eq_true_eq] at h
  have hsz : (s.extract (1 : Int).toNat ((s.size : Int) - 1).toNat).size ≤ 65536 := by
    rw [ByteArray.size_extract]; omega
  have hin : s.extract (1 : Int).toNat ((s.size : Int) - 1).toNat = gapInner s := by
    unfold gapInner
    congr 1
    omega
  repeat' (first | refine d1 ?_ | refine dd ?_ | (show ∀ _ : Nat, T _ _ _ _ _; intro _))
  rw [hin] at hsz ⊢
  refine T_op (OpT.call rfl rfl rfl rfl rfl (fun w hc => atoi_spec (gapInner s) (by omega) w (hw.cls hc)) ?_)
  rintro v A (⟨⟨n, hn, rfl⟩, rfl⟩ | ⟨hn, ⟨n, tp, p, rfl⟩, rfl⟩)
  · have hlaw := gap_ok hn
    have hd := decDigits_len n.toNat
    repeat' (first | refine d1 ?_ | refine dd ?_ | (show T _ (.ops _ (_ :: _) :: _) _ _ _; first | refine T_val rfl (Val.nilq rfl) rfl rfl rfl ?_ | refine T_call rfl rfl rfl rfl rfl (fun w hw => itoa_spec' n (by ((simp only [List.cons_append, List.nil_append, GP, dstL, lookE, Nat.beq, cond, List.getElem?_cons_zero, List.getElem?_cons_succ, Option.bind_some, and_true, Bool.and_eq_true, Bool.or_eq_true, Bool.and_eq_false_iff, Bool.or_eq_false_iff, Bool.not_eq_true', Bool.not_eq_false', decide_eq_true_eq, decide_eq_false_iff_not] at hg); omega)) w) ?_ | refine T_callC rfl rfl rfl rfl rfl rfl rfl (fun hg w hw => itoa_spec' n (by ((simp only [List.cons_append, List.nil_append, GP, dstL, lookE, Nat.beq, cond, List.getElem?_cons_zero, List.getElem?_cons_succ, Option.bind_some, and_true, Bool.and_eq_true, Bool.or_eq_true, Bool.and_eq_false_iff, Bool.or_eq_false_iff, Bool.not_eq_true', Bool.not_eq_false', decide_eq_true_eq, decide_eq_false_iff_not] at hg); omega)) w) ?_ | refine T_vcC rfl rfl rfl rfl rfl rfl rfl (fun hg => by ((simp only [List.cons_append, List.nil_append, GP, dstL, lookE, Nat.beq, cond, List.getElem?_cons_zero, List.getElem?_cons_succ, Option.bind_some, and_true, Bool.and_eq_true, Bool.or_eq_true, Bool.and_eq_false_iff, Bool.or_eq_false_iff, Bool.not_eq_true', Bool.not_eq_false', decide_eq_true_eq, decide_eq_false_iff_not] at hg); simp [ByteArray.size]; omega)) ?_) | (show T _ (.run _ _ (_ :: _) _ _ :: _) _ _ _; first | refine rc rfl rfl rfl rfl rfl rfl rfl (fun w hw => itoa_spec' n (by ((simp only [List.cons_append, List.nil_append, GP, dstL, lookE, Nat.beq, cond, List.getElem?_cons_zero, List.getElem?_cons_succ, Option.bind_some, and_true, Bool.and_eq_true, Bool.or_eq_true, Bool.and_eq_false_iff, Bool.or_eq_false_iff, Bool.not_eq_true', Bool.not_eq_false', decide_eq_true_eq, decide_eq_false_iff_not] at hg); omega)) w) ?_ | refine rcG rfl rfl rfl rfl rfl rfl rfl rfl rfl (fun hg w hw => itoa_spec' n (by ((simp only [List.cons_append, List.nil_append, GP, dstL, lookE, Nat.beq, cond, List.getElem?_cons_zero, List.getElem?_cons_succ, Option.bind_some, and_true, Bool.and_eq_true, Bool.or_eq_true, Bool.and_eq_false_iff, Bool.or_eq_false_iff, Bool.not_eq_true', Bool.not_eq_false', decide_eq_true_eq, decide_eq_false_iff_not] at hg); omega)) w) ?_) | (show ∀ _ : Nat, T _ _ _ _ _; intro _) | (show T _ (.code .ret :: _) _ _ _; refine T_retV [] rfl (Hle.none _) ⟨congrArg Value.bool ?_, rfl⟩))
    rw [← hlaw, Bool.true_and]; rfl
  · have hlaw := gap_no hn
    have hd := decDigits_len n.toNat
    repeat' (first | refine d1 ?_ | refine dd ?_ | (show T _ (.ops _ (_ :: _) :: _) _ _ _; first | refine T_val rfl (Val.nilq rfl) rfl rfl rfl ?_ | refine T_call rfl rfl rfl rfl rfl (fun w hw => itoa_spec' n (by ((simp only [List.cons_append, List.nil_append, GP, dstL, lookE, Nat.beq, cond, List.getElem?_cons_zero, List.getElem?_cons_succ, Option.bind_some, and_true, Bool.and_eq_true, Bool.or_eq_true, Bool.and_eq_false_iff, Bool.or_eq_false_iff, Bool.not_eq_true', Bool.not_eq_false', decide_eq_true_eq, decide_eq_false_iff_not] at hg); omega)) w) ?_ | refine T_callC rfl rfl rfl rfl rfl rfl rfl (fun hg w hw => itoa_spec' n (by ((simp only [List.cons_append, List.nil_append, GP, dstL, lookE, Nat.beq, cond, List.getElem?_cons_zero, List.getElem?_cons_succ, Option.bind_some, and_true, Bool.and_eq_true, Bool.or_eq_true, Bool.and_eq_false_iff, Bool.or_eq_false_iff, Bool.not_eq_true', Bool.not_eq_false', decide_eq_true_eq, decide_eq_false_iff_not] at hg); omega)) w) ?_ | refine T_vcC rfl rfl rfl rfl rfl rfl rfl (fun hg => by ((simp only [List.cons_append, List.nil_append, GP, dstL, lookE, Nat.beq, cond, List.getElem?_cons_zero, List.getElem?_cons_succ, Option.bind_some, and_true, Bool.and_eq_true, Bool.or_eq_true, Bool.and_eq_false_iff, Bool.or_eq_false_iff, Bool.not_eq_true', Bool.not_eq_false', decide_eq_true_eq, decide_eq_false_iff_not] at hg); simp [ByteArray.size]; omega)) ?_) | (show T _ (.run _ _ (_ :: _) _ _ :: _) _ _ _; first | refine rc rfl rfl rfl rfl rfl rfl rfl (fun w hw => itoa_spec' n (by ((simp only [List.cons_append, List.nil_append, GP, dstL, lookE, Nat.beq, cond, List.getElem?_cons_zero, List.getElem?_cons_succ, Option.bind_some, and_true, Bool.and_eq_true, Bool.or_eq_true, Bool.and_eq_false_iff, Bool.or_eq_false_iff, Bool.not_eq_true', Bool.not_eq_false', decide_eq_true_eq, decide_eq_false_iff_not] at hg); omega)) w) ?_ | refine rcG rfl rfl rfl rfl rfl rfl rfl rfl rfl (fun hg w hw => itoa_spec' n (by ((simp only [List.cons_append, List.nil_append, GP, dstL, lookE, Nat.beq, cond, List.getElem?_cons_zero, List.getElem?_cons_succ, Option.bind_some, and_true, Bool.and_eq_true, Bool.or_eq_true, Bool.and_eq_false_iff, Bool.or_eq_false_iff, Bool.not_eq_true', Bool.not_eq_false', decide_eq_true_eq, decide_eq_false_iff_not] at hg); omega)) w) ?_) | (show ∀ _ : Nat, T _ _ _ _ _; intro _) | (show T _ (.code .ret :: _) _ _ _; refine T_retV [] rfl (Hle.none _) ⟨congrArg Value.bool ?_, rfl⟩))
    rw [hlaw, Bool.false_and, Bool.false_and]; rfl

/-! ### Clusters -/
theorem clusters_spec (s : ByteArray) (w : World) : Spec Tryz.prog 112 [.string s] w (fun v A => ∃ b : Nat, True ∧ v = .func (.func 126) #[] #[.pointer (some ⟨b, 0, none⟩)] ∧ A = [blk b [.string s] 9]) := by
  refine spec_of sg Tryz.func112 rfl rfl rfl ?_
  repeat' (first | (show T _ (.ops _ (⟨_, .box _ _, _, _, _, _⟩ :: _) :: _) _ _ _; refine T_op (OpT.box (cs := [.string s]) rfl rfl rfl rfl rfl rfl rfl (fun _ => ?_))) | refine d1 ?_ | refine dd ?_ | (show ∀ _ : Nat, T _ _ _ _ _; intro _) | (show T _ (.code .ret :: _) _ _ _; refine T_retV _ rfl (Hle.refl _) ⟨_, trivial, rfl, rfl⟩))
theorem clusters_iter (s : ByteArray) (b : Nat) (hs : s.size ≤ 65536) : Iter Tryz.prog 126 [] [.pointer (some ⟨b, 0, none⟩)] [blk b [.string s] 9] (clusterVs s) := by
  refine iter_of sg Tryz.func126 rfl rfl rfl ?_
  intro w0 l GQ X Hj hY h0
  show T _ _ _ _ (blk b [.string s] 9 :: Hj)
  repeat' (first | refine d1 ?_ | refine dd ?_ | (show ∀ _ : Nat, T _ _ _ _ _; intro _))
  refine T_loop (fun x : Nat × List HA => [(0, yv l), (1, .pointer (some ⟨b, 0, none⟩)), (3, .int .i64 ((stp s x.1).1 : Nat)), (4, .int .i64 ((x.1 : Int) + 1))]) (fun x => blk b [.string s] 9 :: x.2) (fun x => x.1 ≤ s.size ∧ GQ (stp s x.1).2.length x.2) (fun x => s.size - x.1) (0, Hj) ⟨Nat.zero_le _, h0⟩ ⟨rfl, rfl, rfl, rfl, trivial⟩ (Hle.refl _) ?_
  rintro ⟨m, H'⟩ ⟨hm, hG⟩
  have hle := stp_le s m
  dsimp only at hm hG ⊢
  repeat' (first | refine d1 ?_ | refine dd ?_ | (show ∀ _ : Nat, T _ _ _ _ _; intro _))
  refine T_if rfl (fun h => ?_) (fun h => ?_)
  · simp only [decide_eq_true_eq] at h
    repeat' (first | refine d1 ?_ | refine dd ?_ | (show T _ (.ops _ (_ :: _) :: _) _ _ _; first | refine T_call rfl rfl rfl rfl rfl (fun w hw => kindPrg_spec _ (byteAt_bd _ _) w) ?_ | refine T_callC rfl rfl rfl rfl rfl rfl rfl (fun hg w hw => kindPrg_spec _ (byteAt_bd _ _) w) ?_ | refine T_call rfl rfl rfl rfl rfl (fun w hw => rightPrg_spec _ _ _ (by ((simp only [List.cons_append, List.nil_append, GP, dstL, lookE, Nat.beq, cond, List.getElem?_cons_zero, List.getElem?_cons_succ, Option.bind_some, and_true, Bool.and_eq_true, Bool.or_eq_true, Bool.and_eq_false_iff, Bool.or_eq_false_iff, Bool.not_eq_true', Bool.not_eq_false', decide_eq_true_eq, decide_eq_false_iff_not] at hg); omega)) w) ?_ | refine T_callC rfl rfl rfl rfl rfl rfl rfl (fun hg w hw => rightPrg_spec _ _ _ (by ((simp only [List.cons_append, List.nil_append, GP, dstL, lookE, Nat.beq, cond, List.getElem?_cons_zero, List.getElem?_cons_succ, Option.bind_some, and_true, Bool.and_eq_true, Bool.or_eq_true, Bool.and_eq_false_iff, Bool.or_eq_false_iff, Bool.not_eq_true', Bool.not_eq_false', decide_eq_true_eq, decide_eq_false_iff_not] at hg); omega)) w) ?_) | (show T _ (.run _ _ (_ :: _) _ _ :: _) _ _ _; first | refine rc rfl rfl rfl rfl rfl rfl rfl (fun w hw => kindPrg_spec _ (byteAt_bd _ _) w) ?_ | refine rcG rfl rfl rfl rfl rfl rfl rfl rfl rfl (fun hg w hw => kindPrg_spec _ (byteAt_bd _ _) w) ?_ | refine rc rfl rfl rfl rfl rfl rfl rfl (fun w hw => rightPrg_spec _ _ _ (by ((simp only [List.cons_append, List.nil_append, GP, dstL, lookE, Nat.beq, cond, List.getElem?_cons_zero, List.getElem?_cons_succ, Option.bind_some, and_true, Bool.and_eq_true, Bool.or_eq_true, Bool.and_eq_false_iff, Bool.or_eq_false_iff, Bool.not_eq_true', Bool.not_eq_false', decide_eq_true_eq, decide_eq_false_iff_not] at hg); omega)) w) ?_ | refine rcG rfl rfl rfl rfl rfl rfl rfl rfl rfl (fun hg w hw => rightPrg_spec _ _ _ (by ((simp only [List.cons_append, List.nil_append, GP, dstL, lookE, Nat.beq, cond, List.getElem?_cons_zero, List.getElem?_cons_succ, Option.bind_some, and_true, Bool.and_eq_true, Bool.or_eq_true, Bool.and_eq_false_iff, Bool.or_eq_false_iff, Bool.not_eq_true', Bool.not_eq_false', decide_eq_true_eq, decide_eq_false_iff_not] at hg); omega)) w) ?_) | (show ∀ _ : Nat, T _ _ _ _ _; intro _))
    refine T_if rfl (fun h1 => ?_) (fun h1 => ?_)
    · simp only [Bool.and_eq_true, decide_eq_true_eq] at h1
      have hst := stp_same s m ⟨by omega, h1.1.2, h1.2.1, by omega⟩
      repeat' (first | refine d1 ?_ | refine dd ?_ | (show ∀ _ : Nat, T _ _ _ _ _; intro _))
      refine T_back (m + 1, H') ⟨by dsimp only; omega, by dsimp only; rw [hst]; exact hG⟩ (by dsimp only; omega) ⟨rfl, rfl, ?_, rfl, trivial⟩ (Hle.refl _)
      dsimp only
      rw [hst]; rfl
    · have hno : ¬ (m + 1 < s.size ∧ kAt s (m + 1) = 2 ∧ kAt s (stp s m).1 = 1 ∧ (stp s m).1 < m + 1) := by
        rintro ⟨g1, g2, g3, g4⟩
        have : (decide ((m : Int) + 1 < s.size) && decide (kAt s (m + 1) = 2) && (decide (kAt s (stp s m).1 = 1) && decide (((stp s m).1 : Int) < (m : Int) + 1))) = true := by
          simp only [Bool.and_eq_true, decide_eq_true_eq]
          exact ⟨⟨by omega, g2⟩, g3, by omega⟩
        exact absurd (this.symm.trans h1) (by simp)
      obtain ⟨hy, hst⟩ := stp_yield s m (by omega) hno
      repeat' (first | refine d1 ?_ | refine dd ?_ | (show ∀ _ : Nat, T _ _ _ _ _; intro _))
      refine T_yield (K := [blk b [.string s] 9]) hY rfl rfl rfl rfl hy hG (Hle.comm [_] H') (fun J => Hle.comm J [_]) (fun H2 hG2 => ?_) (fun Y hX => ?_)
      · show T _ _ _ _ (blk b [.string s] 9 :: H2)
        repeat' (first | refine d1 ?_ | refine dd ?_ | (show ∀ _ : Nat, T _ _ _ _ _; intro _) | (show T _ (.code (.cond _ _ _) :: _) _ _ _; refine T_if rfl (fun h => ?_) (fun h => ?_)))
        · exact absurd h (by decide)
        · refine T_back (m + 1, H2) ⟨by dsimp only; omega, ?_⟩ (by dsimp only; omega) ⟨rfl, rfl, ?_, rfl, trivial⟩ (Hle.refl _)
          · dsimp only
            rw [hst]
            simpa using hG2
          · dsimp only
            rw [hst]; rfl
      · show T _ _ _ _ (blk b [.string s] 9 :: Y)
        repeat' (first | refine d1 ?_ | refine dd ?_ | (show ∀ _ : Nat, T _ _ _ _ _; intro _) | (show T _ (.code (.cond _ _ _) :: _) _ _ _; refine T_if rfl (fun h => ?_) (fun h => ?_)) | (show T _ (.code .ret :: _) _ _ _; refine T_istop rfl Y hX (Hle.refl _)))
        exact absurd h (by decide)
  · simp only [decide_eq_false_iff_not] at h
    have hm2 : m = s.size := by omega
    subst hm2
    have hlen : (clusterVs s).length = (stp s s.size).2.length := by simp [clusterVs]
    repeat' (first | refine d1 ?_ | refine dd ?_ | (show ∀ _ : Nat, T _ _ _ _ _; intro _))
    refine T_ifall rfl H' ?_ (Hle.refl _)
    rw [hlen]; exact hG

theorem checkPrg_spec (s : ByteArray) (w : World) : Spec Tryz.prog 101 [.string s] w (fun v A => v = .int .i64 (checkS s) ∧ A = []) := by
  refine spec_of sg Tryz.func101 rfl rfl rfl ?_
  repeat' (first | refine d1 ?_ | refine dd ?_ | (show ∀ _ : Nat, T _ _ _ _ _; intro _))
  rename_i b
  refine T_if rfl (fun h => ?_) (fun h => ?_)
  · simp only [decide_eq_true_eq] at h
    repeat' (first | refine d1 ?_ | refine dd ?_ | (show ∀ _ : Nat, T _ _ _ _ _; intro _) | (show T _ (.code .ret :: _) _ _ _; refine T_retM (vs := [.int .i64 4]) [] ⟨⟨b, _, [.int .i64 4], rfl, rfl, rfl, rfl, fun _ => rfl, rfl, rdOwn1 rfl⟩, trivial⟩ (Hle.none _) ⟨?_, rfl⟩))
    unfold checkS; rw [if_pos h]; rfl
  simp only [decide_eq_false_iff_not] at h
  repeat' (first | refine d1 ?_ | refine dd ?_ | (show T _ (.ops _ (_ :: _) :: _) _ _ _; refine T_callE rfl rfl rfl rfl rfl (fun w _ => clusters_spec s w) (fun x _ => ?_)) | (show ∀ _ : Nat, T _ _ _ _ _; intro _))
  have hps : ∀ (j : Nat) (y : List Value), (clusterVs s)[j]? = some y → ∃ p, (stp s s.size).2[j]? = some p ∧ y = clusterV s p := by
    intro j y hy
    unfold clusterVs at hy
    rw [List.getElem?_map] at hy
    cases hp : (stp s s.size).2[j]? with
    | none => rw [hp] at hy; cases hy
    | some p => rw [hp] at hy; exact ⟨p, rfl, (Option.some.inj hy).symm⟩
  refine T_range (clusters_iter s x (by omega)) rfl (fun j y hy => by obtain ⟨p, _, rfl⟩ := hps j y hy; exact ⟨rfl, rfl⟩)
    (fun j H => H = [blk b [.int .i64 0] 27] ∧ ∀ i p, i < j → (stp s s.size).2[i]? = some p → firstOk s p.1) (fun H => H = [blk b [.int .i64 11] 27] ∧ okAll s = false) (fun _ _ => False)
    [blk b [.int .i64 0] 27] ⟨rfl, fun i p h => by omega⟩ (Hle.refl _) ?_ ?_ ?_ (fun _ _ _ h => h.elim)
  · rintro L r j y Hj K hr hy ⟨rfl, hG⟩
    obtain ⟨p, hp, rfl⟩ := hps j y hy
    have hb := stp_bounds s s.size p (List.mem_of_getElem? hp)
    have hk : kindI ((byteAt (s.extract p.1 p.2) 0).toNat : Int) = kAt s p.1 := by rw [byteAt_extract s _ _ hb.1 hb.2]; rfl
    have hsz : (s.extract p.1 p.2).size = p.2 - p.1 := by rw [ByteArray.size_extract]; omega
    show T _ _ ((12, .string (s.extract p.1 p.2)) :: (11, .int .i64 (p.1 : Nat)) :: _) _ (lrec L r :: blk b [.int .i64 0] 27 :: K)
    repeat' (first | refine d1 ?_ | refine dd ?_ | (show ∀ _ : Nat, T _ _ _ _ _; intro _) | (show T _ _ _ _ _; refine T_begin hr rfl ?_))
    repeat' (first | refine d1 ?_ | refine dd ?_ | (show T _ (.ops _ (_ :: _) :: _) _ _ _; first | refine T_call rfl rfl rfl rfl rfl (fun w hw => kindPrg_spec _ (byteAt_bd _ _) w) ?_ | refine T_callC rfl rfl rfl rfl rfl rfl rfl (fun hg w hw => kindPrg_spec _ (byteAt_bd _ _) w) ?_) | (show T _ (.run _ _ (_ :: _) _ _ :: _) _ _ _; first | refine rc rfl rfl rfl rfl rfl rfl rfl (fun w hw => kindPrg_spec _ (byteAt_bd _ _) w) ?_ | refine rcG rfl rfl rfl rfl rfl rfl rfl rfl rfl (fun hg w hw => kindPrg_spec _ (byteAt_bd _ _) w) ?_) | (show ∀ _ : Nat, T _ _ _ _ _; intro _))
    rw [hk]
    refine T_if rfl (fun h1 => ?_) (fun h1 => ?_)
    · simp only [Bool.or_eq_true, decide_eq_true_eq] at h1
      repeat' (first | refine d1 ?_ | refine dd ?_ | (show ∀ _ : Nat, T _ _ _ _ _; intro _) | (show T _ (.code .ret :: _) _ _ _; refine T_rret _ ⟨rfl, ?_⟩ (Hle.refl _)))
      cases ho : okAll s with
      | false => rfl
      | true =>
        have := (clusters_law s).2 ho p (List.mem_of_getElem? hp)
        unfold firstOk at this
        omega
    · simp only [Bool.or_eq_false_iff, decide_eq_false_iff_not] at h1
      repeat' (first | refine d1 ?_ | refine dd ?_ | (show ∀ _ : Nat, T _ _ _ _ _; intro _) | (show T _ _ _ _ _; refine T_next _ ⟨rfl, ?_⟩ (Hle.refl _)))
      intro i q hi hq
      rcases Nat.lt_or_ge i j with h2 | h2
      · exact hG i q h2 hq
      · rw [show i = j by omega, hp] at hq
        cases hq
        exact h1
  · rintro D Hn ⟨rfl, hG⟩
    show T _ _ _ _ (dfr D :: blk x [.string s] 9 :: blk b [.int .i64 0] 27 :: [])
    repeat' (first | refine d1 ?_ | refine dd ?_ | (show ∀ _ : Nat, T _ _ _ _ _; intro _) | (show T _ (.code .ret :: _) _ _ _; refine T_retD (Hle.refl _) (rf_M (ds := []) (vs := [.int .i64 0]) [] ⟨⟨b, _, [.int .i64 0], rfl, rfl, rfl, rfl, fun _ => rfl, rfl, rdOwn1 rfl⟩, trivial⟩ (Hle.none _) ⟨?_, rfl⟩)))
    have : okAll s = true := (clusters_law s).1 (fun p hp => by
      obtain ⟨i, hi, e⟩ := List.getElem_of_mem hp
      refine hG i p (by simpa [clusterVs] using hi) ?_
      rw [List.getElem?_eq_getElem hi, e])
    unfold checkS; rw [if_neg h, this]; rfl
  · rintro D Hx ⟨rfl, ho⟩
    show T _ _ _ _ (dfr D :: blk x [.string s] 9 :: blk b [.int .i64 11] 27 :: [])
    refine T_retD (Hle.refl _) (rf_M (ds := []) (vs := [.int .i64 11]) [] ⟨⟨b, _, [.int .i64 11], rfl, rfl, rfl, rfl, fun _ => rfl, rfl, rdOwn1 rfl⟩, trivial⟩ (Hle.none _) ⟨?_, rfl⟩)
    unfold checkS; rw [if_neg h, ho]; rfl
end Go.Proofs.YtmcgificpaeipaaGreatDoor
/- Walks: searches in slices. -/
namespace Go.Proofs.YtmcgificpaeipaaGreatDoor
open Go.RowKit Go.Shelf Go.Proofs
set_option maxRecDepth 100000
set_option maxHeartbeats 1000000

theorem indexFuncB_spec (A : Option Addr) (n c : Nat) (l : List UInt8) (f : FuncId) (fs cs : List Value) (p : UInt8 → Bool) (w : World) (hs : Src w 1 A n (l.map fun c => Value.int .u8 (c.toNat : Nat))) (hn : l.length = n) (hb : n ≤ 9223372036854775807)
    (hf : ∀ x ∈ l, ∀ w', Below w.heap.size w w' → Spec Tryz.prog f (fs ++ (.int .u8 ((x.toNat : Nat) : Int) :: cs)) w' (fun v A => v = .bool (p x) ∧ A = [])) :
    Spec Tryz.prog 114 [.slice A n c, .func (.func f) fs.toArray cs.toArray] w (fun v A => v = .int .i64 (findI p l) ∧ A = []) := by
  refine spec_of sg Tryz.func114 rfl rfl rfl ?_
  repeat' (first | refine d1 ?_ | refine dd ?_ | (show ∀ _ : Nat, T _ _ _ _ _; intro _))
  refine T_loop (fun k : Nat => [(0, .slice A n c), (1, .func (.func f) fs.toArray cs.toArray), (7, .int .i64 n), (8, .int .i64 k)]) (fun _ => []) (fun k => k ≤ n ∧ ∀ i x, i < k → l[i]? = some x → p x = false) (fun k => n - k) 0 ⟨Nat.zero_le _, fun i x h => by omega⟩ ⟨rfl, rfl, rfl, rfl, trivial⟩ (Hle.refl _) ?_
  rintro k ⟨hk, hok⟩
  repeat' (first | refine d1 ?_ | refine dd ?_ | (show ∀ _ : Nat, T _ _ _ _ _; intro _))
  refine T_if rfl (fun h => ?_) (fun h => ?_)
  · simp only [decide_eq_true_eq] at h
    have hkn : k < n := by omega
    obtain ⟨b, o, rfl⟩ := hs.base (by omega)
    obtain ⟨x, hx⟩ : ∃ x, l[k]? = some x := ⟨_, List.getElem?_eq_getElem (by omega)⟩
    repeat' (first | refine d1 ?_ | refine dd ?_ | (show ∀ _ : Nat, T _ _ _ _ _; intro _))
    refine T_load (v := .int .u8 ((x.toNat : Nat) : Int)) rfl rfl rfl rfl rfl (rdOld ?_) ?_
    · exact (hs.get1 hkn (by rw [List.getElem?_map, hx]; rfl)).2
    repeat' (first | refine d1 ?_ | refine dd ?_ | (show T _ (.ops _ (_ :: _) :: _) _ _ _; first | refine T_call rfl rfl rfl rfl rfl (fun w hw => hf x (List.mem_of_getElem? hx) w hw.below) ?_ | refine T_callC rfl rfl rfl rfl rfl rfl rfl (fun hg w hw => hf x (List.mem_of_getElem? hx) w hw.below) ?_) | (show T _ (.run _ _ (_ :: _) _ _ :: _) _ _ _; first | refine rc rfl rfl rfl rfl rfl rfl rfl (fun w hw => hf x (List.mem_of_getElem? hx) w hw.below) ?_ | refine rcG rfl rfl rfl rfl rfl rfl rfl rfl rfl (fun hg w hw => hf x (List.mem_of_getElem? hx) w hw.below) ?_) | (show ∀ _ : Nat, T _ _ _ _ _; intro _))
    refine T_if rfl (fun h1 => ?_) (fun h1 => ?_)
    · repeat' (first | refine d1 ?_ | refine dd ?_ | (show ∀ _ : Nat, T _ _ _ _ _; intro _) | (show T _ (.code .ret :: _) _ _ _; refine T_retV [] rfl (Hle.refl _) ⟨congrArg (Value.int .i64) ?_, rfl⟩))
      exact (findI_some hx h1 hok).symm
    · repeat' (first | refine d1 ?_ | refine dd ?_ | (show ∀ _ : Nat, T _ _ _ _ _; intro _))
      refine T_back (k + 1) ⟨by omega, fun i y hi hy => ?_⟩ (by omega) ⟨rfl, rfl, rfl, rfl, trivial⟩ (Hle.refl _)
      rcases Nat.lt_or_ge i k with h2 | h2
      · exact hok i y h2 hy
      · rw [show i = k by omega, hx] at hy
        cases hy
        exact h1
  · simp only [decide_eq_false_iff_not] at h
    repeat' (first | refine d1 ?_ | refine dd ?_ | (show ∀ _ : Nat, T _ _ _ _ _; intro _) | (show T _ (.code .ret :: _) _ _ _; refine T_retV [] rfl (Hle.refl _) ⟨congrArg (Value.int .i64) ?_, rfl⟩))
    exact (findI_none (fun i x hi => hok i x (by have := (List.getElem?_eq_some_iff.1 hi).1; omega) hi)).symm
theorem containsFuncB_spec (A : Option Addr) (n c : Nat) (l : List UInt8) (f : FuncId) (fs cs : List Value) (p : UInt8 → Bool) (w : World) (hs : Src w 1 A n (l.map fun c => Value.int .u8 (c.toNat : Nat))) (hn : l.length = n) (hb : n ≤ 9223372036854775807)
    (hf : ∀ x ∈ l, ∀ w', Below w.heap.size w w' → Spec Tryz.prog f (fs ++ (.int .u8 ((x.toNat : Nat) : Int) :: cs)) w' (fun v A => v = .bool (p x) ∧ A = [])) :
    Spec Tryz.prog 103 [.slice A n c, .func (.func f) fs.toArray cs.toArray] w (fun v A => v = .bool (l.any p) ∧ A = []) := by
  refine spec_of sg Tryz.func103 rfl rfl rfl ?_
  repeat' (first | refine d1 ?_ | refine dd ?_ | (show T _ (.ops _ (_ :: _) :: _) _ _ _; first | refine T_call rfl rfl rfl rfl rfl (fun w hw => indexFuncB_spec A n c l f fs cs p w (rdSrc hs w hw) hn hb (fun x hx w' hb' => hf x hx w' (hw.below.trans (hb'.mono hw.below.size)))) ?_ | refine T_callC rfl rfl rfl rfl rfl rfl rfl (fun hg w hw => indexFuncB_spec A n c l f fs cs p w (rdSrc hs w hw) hn hb (fun x hx w' hb' => hf x hx w' (hw.below.trans (hb'.mono hw.below.size)))) ?_) | (show T _ (.run _ _ (_ :: _) _ _ :: _) _ _ _; first | refine rc rfl rfl rfl rfl rfl rfl rfl (fun w hw => indexFuncB_spec A n c l f fs cs p w (rdSrc hs w hw) hn hb (fun x hx w' hb' => hf x hx w' (hw.below.trans (hb'.mono hw.below.size)))) ?_ | refine rcG rfl rfl rfl rfl rfl rfl rfl rfl rfl (fun hg w hw => indexFuncB_spec A n c l f fs cs p w (rdSrc hs w hw) hn hb (fun x hx w' hb' => hf x hx w' (hw.below.trans (hb'.mono hw.below.size)))) ?_) | (show ∀ _ : Nat, T _ _ _ _ _; intro _) | (show T _ (.code .ret :: _) _ _ _; refine T_retV [] rfl (Hle.refl _) ⟨congrArg Value.bool ?_, rfl⟩))
  exact findI_any p l

theorem indexFuncI_spec (A : Option Addr) (n c : Nat) (l : List Int) (f : FuncId) (fs cs : List Value) (p : Int → Bool) (w : World) (hs : Src w 1 A n (l.map fun n => Value.int .i64 n)) (hn : l.length = n) (hb : n ≤ 9223372036854775807)
    (hf : ∀ x ∈ l, ∀ w', Below w.heap.size w w' → Spec Tryz.prog f (fs ++ (.int .i64 x :: cs)) w' (fun v A => v = .bool (p x) ∧ A = [])) :
    Spec Tryz.prog 81 [.slice A n c, .func (.func f) fs.toArray cs.toArray] w (fun v A => v = .int .i64 (findI p l) ∧ A = []) := by
  refine spec_of sg Tryz.func81 rfl rfl rfl ?_
  repeat' (first | refine d1 ?_ | refine dd ?_ | (show ∀ _ : Nat, T _ _ _ _ _; intro _))
  refine T_loop (fun k : Nat => [(0, .slice A n c), (1, .func (.func f) fs.toArray cs.toArray), (7, .int .i64 n), (8, .int .i64 k)]) (fun _ => []) (fun k => k ≤ n ∧ ∀ i x, i < k → l[i]? = some x → p x = false) (fun k => n - k) 0 ⟨Nat.zero_le _, fun i x h => by omega⟩ ⟨rfl, rfl, rfl, rfl, trivial⟩ (Hle.refl _) ?_
  rintro k ⟨hk, hok⟩
  repeat' (first | refine d1 ?_ | refine dd ?_ | (show ∀ _ : Nat, T _ _ _ _ _; intro _))
  refine T_if rfl (fun h => ?_) (fun h => ?_)
  · simp only [decide_eq_true_eq] at h
    have hkn : k < n := by omega
    obtain ⟨b, o, rfl⟩ := hs.base (by omega)
    obtain ⟨x, hx⟩ : ∃ x, l[k]? = some x := ⟨_, List.getElem?_eq_getElem (by omega)⟩
    repeat' (first | refine d1 ?_ | refine dd ?_ | (show ∀ _ : Nat, T _ _ _ _ _; intro _))
    refine T_load (v := .int .i64 x) rfl rfl rfl rfl rfl (rdOld ?_) ?_
    · exact (hs.get1 hkn (by rw [List.getElem?_map, hx]; rfl)).2
    repeat' (first | refine d1 ?_ | refine dd ?_ | (show T _ (.ops _ (_ :: _) :: _) _ _ _; first | refine T_call rfl rfl rfl rfl rfl (fun w hw => hf x (List.mem_of_getElem? hx) w hw.below) ?_ | refine T_callC rfl rfl rfl rfl rfl rfl rfl (fun hg w hw => hf x (List.mem_of_getElem? hx) w hw.below) ?_) | (show T _ (.run _ _ (_ :: _) _ _ :: _) _ _ _; first | refine rc rfl rfl rfl rfl rfl rfl rfl (fun w hw => hf x (List.mem_of_getElem? hx) w hw.below) ?_ | refine rcG rfl rfl rfl rfl rfl rfl rfl rfl rfl (fun hg w hw => hf x (List.mem_of_getElem? hx) w hw.below) ?_) | (show ∀ _ : Nat, T _ _ _ _ _; intro _))
    refine T_if rfl (fun h1 => ?_) (fun h1 => ?_)
    · repeat' (first | refine d1 ?_ | refine dd ?_ | (show ∀ _ : Nat, T _ _ _ _ _; intro _) | (show T _ (.code .ret :: _) _ _ _; refine T_retV [] rfl (Hle.refl _) ⟨congrArg (Value.int .i64) ?_, rfl⟩))
      exact (findI_some hx h1 hok).symm
    · repeat' (first | refine d1 ?_ | refine dd ?_ | (show ∀ _ : Nat, T _ _ _ _ _; intro _))
      refine T_back (k + 1) ⟨by omega, fun i y hi hy => ?_⟩ (by omega) ⟨rfl, rfl, rfl, rfl, trivial⟩ (Hle.refl _)
      rcases Nat.lt_or_ge i k with h2 | h2
      · exact hok i y h2 hy
      · rw [show i = k by omega, hx] at hy
        cases hy
        exact h1
  · simp only [decide_eq_false_iff_not] at h
    repeat' (first | refine d1 ?_ | refine dd ?_ | (show ∀ _ : Nat, T _ _ _ _ _; intro _) | (show T _ (.code .ret :: _) _ _ _; refine T_retV [] rfl (Hle.refl _) ⟨congrArg (Value.int .i64) ?_, rfl⟩))
    exact (findI_none (fun i x hi => hok i x (by have := (List.getElem?_eq_some_iff.1 hi).1; omega) hi)).symm
theorem containsFuncI_spec (A : Option Addr) (n c : Nat) (l : List Int) (f : FuncId) (fs cs : List Value) (p : Int → Bool) (w : World) (hs : Src w 1 A n (l.map fun n => Value.int .i64 n)) (hn : l.length = n) (hb : n ≤ 9223372036854775807)
    (hf : ∀ x ∈ l, ∀ w', Below w.heap.size w w' → Spec Tryz.prog f (fs ++ (.int .i64 x :: cs)) w' (fun v A => v = .bool (p x) ∧ A = [])) :
    Spec Tryz.prog 62 [.slice A n c, .func (.func f) fs.toArray cs.toArray] w (fun v A => v = .bool (l.any p) ∧ A = []) := by
  refine spec_of sg Tryz.func62 rfl rfl rfl ?_
  repeat' (first | refine d1 ?_ | refine dd ?_ | (show T _ (.ops _ (_ :: _) :: _) _ _ _; first | refine T_call rfl rfl rfl rfl rfl (fun w hw => indexFuncI_spec A n c l f fs cs p w (rdSrc hs w hw) hn hb (fun x hx w' hb' => hf x hx w' (hw.below.trans (hb'.mono hw.below.size)))) ?_ | refine T_callC rfl rfl rfl rfl rfl rfl rfl (fun hg w hw => indexFuncI_spec A n c l f fs cs p w (rdSrc hs w hw) hn hb (fun x hx w' hb' => hf x hx w' (hw.below.trans (hb'.mono hw.below.size)))) ?_) | (show T _ (.run _ _ (_ :: _) _ _ :: _) _ _ _; first | refine rc rfl rfl rfl rfl rfl rfl rfl (fun w hw => indexFuncI_spec A n c l f fs cs p w (rdSrc hs w hw) hn hb (fun x hx w' hb' => hf x hx w' (hw.below.trans (hb'.mono hw.below.size)))) ?_ | refine rcG rfl rfl rfl rfl rfl rfl rfl rfl rfl (fun hg w hw => indexFuncI_spec A n c l f fs cs p w (rdSrc hs w hw) hn hb (fun x hx w' hb' => hf x hx w' (hw.below.trans (hb'.mono hw.below.size)))) ?_) | (show ∀ _ : Nat, T _ _ _ _ _; intro _) | (show T _ (.code .ret :: _) _ _ _; refine T_retV [] rfl (Hle.refl _) ⟨congrArg Value.bool ?_, rfl⟩))
  exact findI_any p l

theorem indexFuncT_spec (A : Option Addr) (n c : Nat) (l : List Tok) (f : FuncId) (fs cs : List Value) (p : Tok → Bool) (w : World) (hs : Src w 6 A n (l.flatMap Tok.cells)) (hn : l.length = n) (hb : n ≤ 9223372036854775807)
    (hf : ∀ x ∈ l, ∀ w', Below w.heap.size w w' → Spec Tryz.prog f (fs ++ (x.val :: cs)) w' (fun v A => v = .bool (p x) ∧ A = [])) :
    Spec Tryz.prog 55 [.slice A n c, .func (.func f) fs.toArray cs.toArray] w (fun v A => v = .int .i64 (findI p l) ∧ A = []) := by
  refine spec_of sg Tryz.func55 rfl rfl rfl ?_
  repeat' (first | refine d1 ?_ | refine dd ?_ | (show ∀ _ : Nat, T _ _ _ _ _; intro _))
  refine T_loop (fun k : Nat => [(0, .slice A n c), (1, .func (.func f) fs.toArray cs.toArray), (7, .int .i64 n), (8, .int .i64 k)]) (fun _ => []) (fun k => k ≤ n ∧ ∀ i x, i < k → l[i]? = some x → p x = false) (fun k => n - k) 0 ⟨Nat.zero_le _, fun i x h => by omega⟩ ⟨rfl, rfl, rfl, rfl, trivial⟩ (Hle.refl _) ?_
  rintro k ⟨hk, hok⟩
  repeat' (first | refine d1 ?_ | refine dd ?_ | (show ∀ _ : Nat, T _ _ _ _ _; intro _))
  refine T_if rfl (fun h => ?_) (fun h => ?_)
  · simp only [decide_eq_true_eq] at h
    have hkn : k < n := by omega
    obtain ⟨b, o, rfl⟩ := hs.base (by omega)
    obtain ⟨x, hx⟩ : ∃ x, l[k]? = some x := ⟨_, List.getElem?_eq_getElem (by omega)⟩
    repeat' (first | refine d1 ?_ | refine dd ?_ | (show ∀ _ : Nat, T _ _ _ _ _; intro _))
    refine T_loadA (vs := x.cells) rfl rfl rfl rfl rfl (rdOld ?_) rfl ?_
    · exact hs.getT hkn hx
    repeat' (first | refine d1 ?_ | refine dd ?_ | (show T _ (.ops _ (_ :: _) :: _) _ _ _; first | refine T_call rfl rfl rfl rfl rfl (fun w hw => hf x (List.mem_of_getElem? hx) w hw.below) ?_ | refine T_callC rfl rfl rfl rfl rfl rfl rfl (fun hg w hw => hf x (List.mem_of_getElem? hx) w hw.below) ?_) | (show T _ (.run _ _ (_ :: _) _ _ :: _) _ _ _; first | refine rc rfl rfl rfl rfl rfl rfl rfl (fun w hw => hf x (List.mem_of_getElem? hx) w hw.below) ?_ | refine rcG rfl rfl rfl rfl rfl rfl rfl rfl rfl (fun hg w hw => hf x (List.mem_of_getElem? hx) w hw.below) ?_) | (show ∀ _ : Nat, T _ _ _ _ _; intro _))
    refine T_if rfl (fun h1 => ?_) (fun h1 => ?_)
    · repeat' (first | refine d1 ?_ | refine dd ?_ | (show ∀ _ : Nat, T _ _ _ _ _; intro _) | (show T _ (.code .ret :: _) _ _ _; refine T_retV [] rfl (Hle.refl _) ⟨congrArg (Value.int .i64) ?_, rfl⟩))
      exact (findI_some hx h1 hok).symm
    · repeat' (first | refine d1 ?_ | refine dd ?_ | (show ∀ _ : Nat, T _ _ _ _ _; intro _))
      refine T_back (k + 1) ⟨by omega, fun i y hi hy => ?_⟩ (by omega) ⟨rfl, rfl, rfl, rfl, trivial⟩ (Hle.refl _)
      rcases Nat.lt_or_ge i k with h2 | h2
      · exact hok i y h2 hy
      · rw [show i = k by omega, hx] at hy
        cases hy
        exact h1
  · simp only [decide_eq_false_iff_not] at h
    repeat' (first | refine d1 ?_ | refine dd ?_ | (show ∀ _ : Nat, T _ _ _ _ _; intro _) | (show T _ (.code .ret :: _) _ _ _; refine T_retV [] rfl (Hle.refl _) ⟨congrArg (Value.int .i64) ?_, rfl⟩))
    exact (findI_none (fun i x hi => hok i x (by have := (List.getElem?_eq_some_iff.1 hi).1; omega) hi)).symm
theorem containsFuncT_spec (A : Option Addr) (n c : Nat) (l : List Tok) (f : FuncId) (fs cs : List Value) (p : Tok → Bool) (w : World) (hs : Src w 6 A n (l.flatMap Tok.cells)) (hn : l.length = n) (hb : n ≤ 9223372036854775807)
    (hf : ∀ x ∈ l, ∀ w', Below w.heap.size w w' → Spec Tryz.prog f (fs ++ (x.val :: cs)) w' (fun v A => v = .bool (p x) ∧ A = [])) :
    Spec Tryz.prog 27 [.slice A n c, .func (.func f) fs.toArray cs.toArray] w (fun v A => v = .bool (l.any p) ∧ A = []) := by
  refine spec_of sg Tryz.func27 rfl rfl rfl ?_
  repeat' (first | refine d1 ?_ | refine dd ?_ | (show T _ (.ops _ (_ :: _) :: _) _ _ _; first | refine T_call rfl rfl rfl rfl rfl (fun w hw => indexFuncT_spec A n c l f fs cs p w (rdSrc hs w hw) hn hb (fun x hx w' hb' => hf x hx w' (hw.below.trans (hb'.mono hw.below.size)))) ?_ | refine T_callC rfl rfl rfl rfl rfl rfl rfl (fun hg w hw => indexFuncT_spec A n c l f fs cs p w (rdSrc hs w hw) hn hb (fun x hx w' hb' => hf x hx w' (hw.below.trans (hb'.mono hw.below.size)))) ?_) | (show T _ (.run _ _ (_ :: _) _ _ :: _) _ _ _; first | refine rc rfl rfl rfl rfl rfl rfl rfl (fun w hw => indexFuncT_spec A n c l f fs cs p w (rdSrc hs w hw) hn hb (fun x hx w' hb' => hf x hx w' (hw.below.trans (hb'.mono hw.below.size)))) ?_ | refine rcG rfl rfl rfl rfl rfl rfl rfl rfl rfl (fun hg w hw => indexFuncT_spec A n c l f fs cs p w (rdSrc hs w hw) hn hb (fun x hx w' hb' => hf x hx w' (hw.below.trans (hb'.mono hw.below.size)))) ?_) | (show ∀ _ : Nat, T _ _ _ _ _; intro _) | (show T _ (.code .ret :: _) _ _ _; refine T_retV [] rfl (Hle.refl _) ⟨congrArg Value.bool ?_, rfl⟩))
  exact findI_any p l
end Go.Proofs.YtmcgificpaeipaaGreatDoor
/- Walks: words and tokens, by the program. -/
namespace Go.Proofs.YtmcgificpaeipaaGreatDoor
open Go.RowKit Go.Shelf Go.Proofs
set_option maxRecDepth 100000
set_option maxHeartbeats 1000000

theorem isWord1_spec (c : Int) (hc : 0 ≤ c ∧ c ≤ 255) (w : World) : Spec Tryz.prog 104 [.int .u8 c] w (fun v A => v = .bool (decide (kindI c = 5) || decide (kindI c = 6)) ∧ A = []) := by
  refine spec_of sg Tryz.func104 rfl rfl rfl ?_
  repeat' (first | refine d1 ?_ | refine dd ?_ | (show T _ (.ops _ (_ :: _) :: _) _ _ _; first | refine T_call rfl rfl rfl rfl rfl (fun w hw => kindPrg_spec c hc w) ?_ | refine T_callC rfl rfl rfl rfl rfl rfl rfl (fun hg w hw => kindPrg_spec c hc w) ?_) | (show T _ (.run _ _ (_ :: _) _ _ :: _) _ _ _; first | refine rc rfl rfl rfl rfl rfl rfl rfl (fun w hw => kindPrg_spec c hc w) ?_ | refine rcG rfl rfl rfl rfl rfl rfl rfl rfl rfl (fun hg w hw => kindPrg_spec c hc w) ?_) | (show ∀ _ : Nat, T _ _ _ _ _; intro _) | (show T _ (.code .ret :: _) _ _ _; refine T_retV [] rfl (Hle.refl _) ⟨rfl, rfl⟩))
theorem isWordPrg_spec (s : ByteArray) (w : World) : Spec Tryz.prog 88 [.string s] w (fun v A => v = .bool (isWordB s) ∧ A = []) := by
  refine spec_of sg Tryz.func88 rfl rfl rfl ?_
  repeat' (first | refine d1 ?_ | refine dd ?_ | (show T _ (.ops _ (_ :: _) :: _) _ _ _; first | refine T_call rfl rfl rfl rfl rfl (fun w hw => checkPrg_spec s w) ?_ | refine T_callC rfl rfl rfl rfl rfl rfl rfl (fun hg w hw => checkPrg_spec s w) ?_) | (show T _ (.run _ _ (_ :: _) _ _ :: _) _ _ _; first | refine rc rfl rfl rfl rfl rfl rfl rfl (fun w hw => checkPrg_spec s w) ?_ | refine rcG rfl rfl rfl rfl rfl rfl rfl rfl rfl (fun hg w hw => checkPrg_spec s w) ?_) | (show ∀ _ : Nat, T _ _ _ _ _; intro _))
  refine T_if rfl (fun h => ?_) (fun h => ?_)
  · repeat' (first | refine d1 ?_ | refine dd ?_ | (show ∀ _ : Nat, T _ _ _ _ _; intro _) | (show T _ (.code .ret :: _) _ _ _; refine T_retV [] rfl (Hle.refl _) ⟨congrArg Value.bool ?_, rfl⟩))
    simp only [Bool.or_eq_true, decide_eq_true_eq, Bool.not_eq_true', decide_eq_false_iff_not] at h
    unfold isWordB
    by_cases h1 : 1 ≤ s.size ∧ s.size ≤ 64
    · have h2 : okAll s = false := by
        cases h3 : okAll s with
        | false => rfl
        | true =>
          have h4 := (empty_size (s := s)).1
          unfold checkS at h
          rw [if_neg (by omega), h3] at h
          rcases h with (h | h) | h
          · have := h4 h; omega
          · omega
          · exact absurd rfl h
      simp [h2]
    · simp [h1]
  simp only [Bool.or_eq_false_iff, decide_eq_false_iff_not, Bool.not_eq_false', decide_eq_true_eq] at h
  have h1 : 1 ≤ s.size ∧ s.size ≤ 64 := by
    have h4 := (empty_size (s := s)).2
    have : s.size ≠ 0 := fun h5 => h.1.1 (h4 h5)
    omega
  have h2 : okAll s = true := by
    cases h3 : okAll s with
    | true => rfl
    | false => have h4 := h.2; unfold checkS at h4; rw [if_neg (by omega), h3] at h4; simp at h4
  repeat' (first | refine d1 ?_ | refine dd ?_ | (show T _ (.ops _ (_ :: _) :: _) _ _ _; first | refine T_call rfl rfl rfl rfl rfl (fun w hw => kindPrg_spec _ (byteAt_bd _ _) w) ?_ | refine T_callC rfl rfl rfl rfl rfl rfl rfl (fun hg w hw => kindPrg_spec _ (byteAt_bd _ _) w) ?_) | (show T _ (.run _ _ (_ :: _) _ _ :: _) _ _ _; first | refine rc rfl rfl rfl rfl rfl rfl rfl (fun w hw => kindPrg_spec _ (byteAt_bd _ _) w) ?_ | refine rcG rfl rfl rfl rfl rfl rfl rfl rfl rfl (fun hg w hw => kindPrg_spec _ (byteAt_bd _ _) w) ?_) | (show ∀ _ : Nat, T _ _ _ _ _; intro _))
  refine T_if rfl (fun h3 => ?_) (fun h3 => ?_)
  · repeat' (first | refine d1 ?_ | refine dd ?_ | (show ∀ _ : Nat, T _ _ _ _ _; intro _) | (show T _ (.code .ret :: _) _ _ _; refine T_retV [] rfl (Hle.refl _) ⟨congrArg Value.bool ?_, rfl⟩))
    have h4 : (decide (kAt s 0 = 1) || decide (kAt s 0 = 3)) = false := by
      simp only [Bool.and_eq_true, Bool.not_eq_true'] at h3
      rw [Bool.or_eq_false_iff]; exact h3
    unfold isWordB
    simp [h4]
  have h4 : (decide (kAt s 0 = 1) || decide (kAt s 0 = 3)) = true := by
    simp only [Bool.and_eq_false_iff, Bool.not_eq_false'] at h3
    rw [Bool.or_eq_true]; exact h3
  repeat' (first | refine d1 ?_ | refine dd ?_ | (show T _ (.ops _ (_ :: _) :: _) _ _ _; first | refine T_op (OpT.bytes rfl rfl rfl rfl rfl (fun b cap => ?_)) | refine T_call rfl rfl rfl rfl rfl (fun w hw => containsFuncB_spec _ _ _ s.data.toList _ [] [] (fun c => decide (kindB c = 5) || decide (kindB c = 6)) w (srcByt w hw) (by simp) (by omega) (fun c _ w' _ => isWord1_spec _ (by have := c.toNat_lt; omega) w')) ?_ | refine T_callC rfl rfl rfl rfl rfl rfl rfl (fun hg w hw => containsFuncB_spec _ _ _ s.data.toList _ [] [] (fun c => decide (kindB c = 5) || decide (kindB c = 6)) w (srcByt w hw) (by simp) (by omega) (fun c _ w' _ => isWord1_spec _ (by have := c.toNat_lt; omega) w')) ?_) | (show T _ (.run _ _ (_ :: _) _ _ :: _) _ _ _; first | refine rc rfl rfl rfl rfl rfl rfl rfl (fun w hw => containsFuncB_spec _ _ _ s.data.toList _ [] [] (fun c => decide (kindB c = 5) || decide (kindB c = 6)) w (srcByt w hw) (by simp) (by omega) (fun c _ w' _ => isWord1_spec _ (by have := c.toNat_lt; omega) w')) ?_ | refine rcG rfl rfl rfl rfl rfl rfl rfl rfl rfl (fun hg w hw => containsFuncB_spec _ _ _ s.data.toList _ [] [] (fun c => decide (kindB c = 5) || decide (kindB c = 6)) w (srcByt w hw) (by simp) (by omega) (fun c _ w' _ => isWord1_spec _ (by have := c.toNat_lt; omega) w')) ?_) | (show ∀ _ : Nat, T _ _ _ _ _; intro _) | (show T _ (.code .ret :: _) _ _ _; refine T_retV [] rfl (Hle.none _) ⟨congrArg Value.bool ?_, rfl⟩))
  exact isWord_law s h1 h2 h4

theorem mark_case : ∀ {p q r z : Bool}, (!(p && (q || r))) = true → (!(p && (q || r))) = (!p || (!q && !r) || !z) := by decide
theorem lt_le64 (n : Nat) : decide ((64 : Int) < n) = !decide ((n : Int) ≤ 64) := by rw [Bool.eq_iff_iff]; simp
theorem word_case1 : ∀ {p q r z : Bool}, (!p) = false → (!false && !false && !(z && (!q && r))) = true → (!false && !false && !(z && (!q && r))) = (!p || q || !r || !z) := by decide
theorem word_case2 : ∀ {p q r z e : Bool}, (!p) = false → (!false && !false && !(z && (!q && r))) = false → (!(!false && !false) && !e) = (!p || q || !r || !z) := by decide
/-- The bounds of a token's strings that the program's own walk asks for. -/
def Tok.small (t : Tok) : Prop := t.text.size ≤ 65536 ∧ t.norm.size ≤ 65536 ∧ t.page.size ≤ 65536 ∧ t.name.size ≤ 65536
theorem tokPrg_spec (t : Tok) (ht : t.small) (w : World) (hw0 : Std w) : Spec Tryz.prog 77 [t.val] w (fun v A => v = .int .i64 (tokE t) ∧ A = []) := by
  obtain ⟨ht1, ht2, ht3, ht4⟩ := ht
  refine spec_of sg Tryz.func77 rfl rfl rfl ?_
  repeat' (first | (show T _ (.ops _ (⟨_, .box _ _, _, _, _, _⟩ :: _) :: _) _ _ _; refine T_op (OpT.box (cs := t.cells) rfl rfl rfl rfl rfl rfl rfl (fun _ => ?_))) | refine d1 ?_ | refine dd ?_ | (show ∀ _ : Nat, T _ _ _ _ _; intro _))
  rename_i b
  refine T_if rfl (fun h => ?_) (fun h => ?_)
  · repeat' (first | refine d1 ?_ | refine dd ?_ | (show ∀ _ : Nat, T _ _ _ _ _; intro _) | (show T _ (.code .ret :: _) _ _ _; refine T_retV [] rfl (Hle.none _) ⟨?_, rfl⟩))
    simp only [Bool.or_eq_true, decide_eq_true_eq] at h
    unfold tokE; rw [if_pos h]; rfl
  simp only [Bool.or_eq_false_iff, decide_eq_false_iff_not] at h
  have e1 : ¬ (t.flags < 0 ∨ 31 < t.flags) := by omega
  have hfl := flags_law t.flags (by omega)
  refine T_draw 1000 [blk b t.cells 48] ?_
  refine T_dval 0 rfl (by kernel_rfl) (by kernel_rfl) (by kernel_rfl) (by kernel_rfl) (by kernel_rfl) rfl rfl (by first | exact Val.pure rfl | exact Val.vc rfl (fun hg => by first | omega | (simp only [inK]; omega) | exact True.intro | assumption) | exact Val.load rfl (fun _ => rdOwn1 rfl) | exact Val.loadA rfl (fun _ => rdAll) rfl) rfl rfl rfl (by first | exact Hle.refl _ | exact Hle.none _) ?_
  refine T_dval 1 rfl (by kernel_rfl) (by kernel_rfl) (by kernel_rfl) (by kernel_rfl) (by kernel_rfl) rfl rfl (by first | exact Val.pure rfl | exact Val.vc rfl (fun hg => by first | omega | (simp only [inK]; omega) | exact True.intro | assumption) | exact Val.load rfl (fun _ => rdOwn1 rfl) | exact Val.loadA rfl (fun _ => rdAll) rfl) rfl rfl rfl (by first | exact Hle.refl _ | exact Hle.none _) ?_
  refine T_dval 2 rfl (by kernel_rfl) (by kernel_rfl) (by kernel_rfl) (by kernel_rfl) (by kernel_rfl) rfl rfl (by first | exact Val.pure rfl | exact Val.vc rfl (fun hg => by first | omega | (simp only [inK]; omega) | exact True.intro | assumption) | exact Val.load rfl (fun _ => rdOwn1 rfl) | exact Val.loadA rfl (fun _ => rdAll) rfl) rfl rfl rfl (by first | exact Hle.refl _ | exact Hle.none _) ?_
  refine T_dval 3 rfl (by kernel_rfl) (by kernel_rfl) (by kernel_rfl) (by kernel_rfl) (by kernel_rfl) rfl rfl (by first | exact Val.pure rfl | exact Val.vc rfl (fun hg => by first | omega | (simp only [inK]; omega) | exact True.intro | assumption) | exact Val.load rfl (fun _ => rdOwn1 rfl) | exact Val.loadA rfl (fun _ => rdAll) rfl) rfl rfl rfl (by first | exact Hle.refl _ | exact Hle.none _) ?_
  refine T_dval 4 rfl (by kernel_rfl) (by kernel_rfl) (by kernel_rfl) (by kernel_rfl) (by kernel_rfl) rfl rfl (by first | exact Val.pure rfl | exact Val.vc rfl (fun hg => by first | omega | (simp only [inK]; omega) | exact True.intro | assumption) | exact Val.load rfl (fun _ => rdOwn1 rfl) | exact Val.loadA rfl (fun _ => rdAll) rfl) rfl rfl rfl (by first | exact Hle.refl _ | exact Hle.none _) ?_
  refine T_dval 5 rfl (by kernel_rfl) (by kernel_rfl) (by kernel_rfl) (by kernel_rfl) (by kernel_rfl) rfl rfl (by first | exact Val.pure rfl | exact Val.vc rfl (fun hg => by first | omega | (simp only [inK]; omega) | exact True.intro | assumption) | exact Val.load rfl (fun _ => rdOwn1 rfl) | exact Val.loadA rfl (fun _ => rdAll) rfl) rfl rfl rfl (by first | exact Hle.refl _ | exact Hle.none _) ?_
  refine T_dval 6 rfl (by kernel_rfl) (by kernel_rfl) (by kernel_rfl) (by kernel_rfl) (by kernel_rfl) rfl rfl (by first | exact Val.pure rfl | exact Val.vc rfl (fun hg => by first | omega | (simp only [inK]; omega) | exact True.intro | assumption) | exact Val.load rfl (fun _ => rdOwn1 rfl) | exact Val.loadA rfl (fun _ => rdAll) rfl) rfl rfl rfl (by first | exact Hle.refl _ | exact Hle.none _) ?_
  refine T_dval 7 rfl (by kernel_rfl) (by kernel_rfl) (by kernel_rfl) (by kernel_rfl) (by kernel_rfl) rfl rfl (by first | exact Val.pure rfl | exact Val.vc rfl (fun hg => by first | omega | (simp only [inK]; omega) | exact True.intro | assumption) | exact Val.load rfl (fun _ => rdOwn1 rfl) | exact Val.loadA rfl (fun _ => rdAll) rfl) rfl rfl rfl (by first | exact Hle.refl _ | exact Hle.none _) ?_
  refine T_dval 8 rfl (by kernel_rfl) (by kernel_rfl) (by kernel_rfl) (by kernel_rfl) (by kernel_rfl) rfl rfl (by first | exact Val.pure rfl | exact Val.vc rfl (fun hg => by first | omega | (simp only [inK]; omega) | exact True.intro | assumption) | exact Val.load rfl (fun _ => rdOwn1 rfl) | exact Val.loadA rfl (fun _ => rdAll) rfl) rfl rfl rfl (by first | exact Hle.refl _ | exact Hle.none _) ?_
  refine T_dval 9 rfl (by kernel_rfl) (by kernel_rfl) (by kernel_rfl) (by kernel_rfl) (by kernel_rfl) rfl rfl (by first | exact Val.pure rfl | exact Val.vc rfl (fun hg => by first | omega | (simp only [inK]; omega) | exact True.intro | assumption) | exact Val.load rfl (fun _ => rdOwn1 rfl) | exact Val.loadA rfl (fun _ => rdAll) rfl) rfl rfl rfl (by first | exact Hle.refl _ | exact Hle.none _) ?_
  refine T_dend (by kernel_rfl) ?_
  rw [show (!decide (andI t.flags 2 = 0)) = hasN t.flags 2 by rw [← hfl.1]; simp, show (!decide (andI t.flags 8 = 0)) = hasN t.flags 8 by rw [← hfl.2.1]; simp]
  repeat' (first | refine d1 ?_ | refine dd ?_ | (show ∀ _ : Nat, T _ _ _ _ _; intro _))
  refine T_if rfl (fun h2 => ?_) (fun h2 => ?_)
  · repeat' (first | refine d1 ?_ | refine dd ?_ | (show ∀ _ : Nat, T _ _ _ _ _; intro _) | (show T _ (.code .ret :: _) _ _ _; refine T_retV [] rfl (Hle.none _) ⟨?_, rfl⟩))
    unfold tokE; rw [if_neg e1, if_pos h2]; rfl
  have e2 : ¬ ((hasN t.flags 2 && hasN t.flags 8) = true) := by rw [h2]; simp
  repeat' (first | refine d1 ?_ | refine dd ?_ | (show ∀ _ : Nat, T _ _ _ _ _; intro _))
  refine T_if rfl (fun h3 => ?_) (fun h3 => ?_)
  · have h4 : hasN t.flags 8 = false := by rw [h3] at h2; simpa using h2
    repeat' (first | refine d1 ?_ | refine dd ?_ | (show ∀ _ : Nat, T _ _ _ _ _; intro _))
    refine T_if rfl (fun h9 => absurd (h9.symm.trans h4) (by simp)) (fun _ => ?_)
    show T _ [_, _, _, _, _] _ _ _
    refine T_cutAt 2 (fun _ : Unit => [(1, .pointer (some ⟨b, 0, none⟩)), (28, .bool (formBad t))]) (fun _ => [blk b t.cells 48]) (fun _ => True) rfl ?_ ?_
    · have hfb : formBad t = (!gappedB t.text || !decide (t.norm = t.text)) := by unfold formBad; rw [if_pos h3]
      repeat' (first | refine d1 ?_ | refine dd ?_ | (show T _ (.ops _ (_ :: _) :: _) _ _ _; first | refine T_call rfl rfl rfl rfl rfl (fun w hw => gapPrg_spec _ (by omega) w (hw0.cls hw)) ?_ | refine T_callC rfl rfl rfl rfl rfl rfl rfl (fun hg w hw => gapPrg_spec _ (by omega) w (hw0.cls hw)) ?_) | (show T _ (.run _ _ (_ :: _) _ _ :: _) _ _ _; first | refine rc rfl rfl rfl rfl rfl rfl rfl (fun w hw => gapPrg_spec _ (by omega) w (hw0.cls hw)) ?_ | refine rcG rfl rfl rfl rfl rfl rfl rfl rfl rfl (fun hg w hw => gapPrg_spec _ (by omega) w (hw0.cls hw)) ?_) | (show ∀ _ : Nat, T _ _ _ _ _; intro _))
      refine T_if rfl (fun h5 => ?_) (fun h5 => ?_)
      · repeat' (first | refine d1 ?_ | refine dd ?_ | (show ∀ _ : Nat, T _ _ _ _ _; intro _) | (show T _ _ _ _ _; refine T_meet () trivial ⟨rfl, ?_, trivial⟩ (Hle.refl _)))
        refine congrArg (fun q => some (Value.bool q)) ?_
        rw [hfb]; rw [h5]; rfl
      · repeat' (first | refine d1 ?_ | refine dd ?_ | (show T _ (.ops _ (_ :: _) :: _) _ _ _; first | refine T_loadA rfl rfl rfl rfl rfl (rdOwn (vs := t.cells) (fun j u hu => by rw [Nat.zero_add]; exact hu)) rfl ?_ | refine T_call rfl rfl rfl rfl rfl (fun w hw => isWordTok_spec t (by omega) w) ?_ | refine T_callC rfl rfl rfl rfl rfl rfl rfl (fun hg w hw => isWordTok_spec t (by omega) w) ?_ | refine T_call rfl rfl rfl rfl rfl (fun w hw => normPrg_spec _ (by omega) w) ?_ | refine T_callC rfl rfl rfl rfl rfl rfl rfl (fun hg w hw => normPrg_spec _ (by omega) w) ?_) | (show T _ (.run _ _ (_ :: _) _ _ :: _) _ _ _; first | refine rc rfl rfl rfl rfl rfl rfl rfl (fun w hw => isWordTok_spec t (by omega) w) ?_ | refine rcG rfl rfl rfl rfl rfl rfl rfl rfl rfl (fun hg w hw => isWordTok_spec t (by omega) w) ?_ | refine rc rfl rfl rfl rfl rfl rfl rfl (fun w hw => normPrg_spec _ (by omega) w) ?_ | refine rcG rfl rfl rfl rfl rfl rfl rfl rfl rfl (fun hg w hw => normPrg_spec _ (by omega) w) ?_) | (show ∀ _ : Nat, T _ _ _ _ _; intro _))
        refine T_if rfl (fun h6 => ?_) (fun h6 => ?_)
        · repeat' (first | refine d1 ?_ | refine dd ?_ | (show ∀ _ : Nat, T _ _ _ _ _; intro _) | (show T _ _ _ _ _; refine T_meet () trivial ⟨rfl, ?_, trivial⟩ (Hle.refl _)))
          refine congrArg (fun q => some (Value.bool q)) ?_
          rw [hfb]; simp [h3] at h6
        · repeat' (first | refine d1 ?_ | refine dd ?_ | (show T _ (.ops _ (_ :: _) :: _) _ _ _; first | refine T_loadA rfl rfl rfl rfl rfl (rdOwn (vs := t.cells) (fun j u hu => by rw [Nat.zero_add]; exact hu)) rfl ?_ | refine T_call rfl rfl rfl rfl rfl (fun w hw => isWordTok_spec t (by omega) w) ?_ | refine T_callC rfl rfl rfl rfl rfl rfl rfl (fun hg w hw => isWordTok_spec t (by omega) w) ?_) | (show T _ (.run _ _ (_ :: _) _ _ :: _) _ _ _; first | refine rc rfl rfl rfl rfl rfl rfl rfl (fun w hw => isWordTok_spec t (by omega) w) ?_ | refine rcG rfl rfl rfl rfl rfl rfl rfl rfl rfl (fun hg w hw => isWordTok_spec t (by omega) w) ?_) | (show ∀ _ : Nat, T _ _ _ _ _; intro _) | (show T _ _ _ _ _; refine T_meet () trivial ⟨rfl, ?_, trivial⟩ (Hle.refl _)))
          refine congrArg (fun q => some (Value.bool q)) ?_
          rw [hfb]; rw [Bool.not_eq_false'] at h5; simp [h3, h5]
    · rintro ⟨⟩ _
      repeat' (first | refine d1 ?_ | refine dd ?_ | (show ∀ _ : Nat, T _ _ _ _ _; intro _))
      refine T_if rfl (fun h5 => ?_) (fun h5 => ?_)
      · repeat' (first | refine d1 ?_ | refine dd ?_ | (show ∀ _ : Nat, T _ _ _ _ _; intro _) | (show T _ (.code .ret :: _) _ _ _; refine T_retV [] rfl (Hle.none _) ⟨?_, rfl⟩))
        unfold tokE; rw [if_neg e1, if_neg e2, if_pos h5]; rfl
      have e3 : ¬ formBad t = true := by rw [h5]; simp
      repeat' (first | refine d1 ?_ | refine dd ?_ | (show ∀ _ : Nat, T _ _ _ _ _; intro _))
      refine T_if rfl (fun h6 => ?_) (fun h6 => ?_)
      · repeat' (first | refine d1 ?_ | refine dd ?_ | (show ∀ _ : Nat, T _ _ _ _ _; intro _) | (show T _ (.code .ret :: _) _ _ _; refine T_retV [] rfl (Hle.none _) ⟨?_, rfl⟩))
        simp only [decide_eq_true_eq] at h6
        unfold tokE; rw [if_neg e1, if_neg e2, if_neg e3, if_pos h6]; rfl
      simp only [decide_eq_false_iff_not] at h6
      repeat' (first | refine d1 ?_ | refine dd ?_ | (show T _ (.ops _ (_ :: _) :: _) _ _ _; first | refine T_call rfl rfl rfl rfl rfl (fun w hw => namedPrg_spec _ (by omega) w) ?_ | refine T_callC rfl rfl rfl rfl rfl rfl rfl (fun hg w hw => namedPrg_spec _ (by omega) w) ?_) | (show T _ (.run _ _ (_ :: _) _ _ :: _) _ _ _; first | refine rc rfl rfl rfl rfl rfl rfl rfl (fun w hw => namedPrg_spec _ (by omega) w) ?_ | refine rcG rfl rfl rfl rfl rfl rfl rfl rfl rfl (fun hg w hw => namedPrg_spec _ (by omega) w) ?_) | (show ∀ _ : Nat, T _ _ _ _ _; intro _))
      refine T_if rfl (fun h7 => ?_) (fun h7 => ?_)
      · repeat' (first | refine d1 ?_ | refine dd ?_ | (show ∀ _ : Nat, T _ _ _ _ _; intro _) | (show T _ (.code .ret :: _) _ _ _; refine T_retV [] rfl (Hle.none _) ⟨?_, rfl⟩))
        unfold tokE; rw [if_neg e1, if_neg e2, if_neg e3, if_neg h6, if_pos h7]; rfl
      · repeat' (first | refine d1 ?_ | refine dd ?_ | (show ∀ _ : Nat, T _ _ _ _ _; intro _) | (show T _ (.code .ret :: _) _ _ _; refine T_retV [] rfl (Hle.none _) ⟨?_, rfl⟩))
        unfold tokE; rw [if_neg e1, if_neg e2, if_neg e3, if_neg h6, if_neg (by rw [h7]; simp)]; rfl
  · repeat' (first | refine d1 ?_ | refine dd ?_ | (show ∀ _ : Nat, T _ _ _ _ _; intro _))
    refine T_if rfl (fun h4 => ?_) (fun h4 => ?_)
    · repeat' (first | refine d1 ?_ | refine dd ?_ | (show ∀ _ : Nat, T _ _ _ _ _; intro _))
      show T _ [_, _, _, _, _] _ _ _
      refine T_cutAt 2 (fun _ : Unit => [(1, .pointer (some ⟨b, 0, none⟩)), (28, .bool (formBad t))]) (fun _ => [blk b t.cells 48]) (fun _ => True) rfl ?_ ?_
      · have hfb : formBad t = (!decide ((t.text.size : Int) = 1) || (!decide (kAt t.text 0 = 5) && !decide (kAt t.text 0 = 4)) || !decide (t.norm = t.text)) := by unfold formBad; rw [if_neg (by rw [h3]; simp), if_pos h4]
        repeat' (first | refine d1 ?_ | refine dd ?_ | (show T _ (.ops _ (_ :: _) :: _) _ _ _; first | refine T_call rfl rfl rfl rfl rfl (fun w hw => markPrg_spec _ w) ?_ | refine T_callC rfl rfl rfl rfl rfl rfl rfl (fun hg w hw => markPrg_spec _ w) ?_) | (show T _ (.run _ _ (_ :: _) _ _ :: _) _ _ _; first | refine rc rfl rfl rfl rfl rfl rfl rfl (fun w hw => markPrg_spec _ w) ?_ | refine rcG rfl rfl rfl rfl rfl rfl rfl rfl rfl (fun hg w hw => markPrg_spec _ w) ?_) | (show ∀ _ : Nat, T _ _ _ _ _; intro _))
        refine T_if rfl (fun h5 => ?_) (fun h5 => ?_)
        · repeat' (first | refine d1 ?_ | refine dd ?_ | (show ∀ _ : Nat, T _ _ _ _ _; intro _) | (show T _ _ _ _ _; refine T_meet () trivial ⟨rfl, ?_, trivial⟩ (Hle.refl _)))
          refine congrArg (fun q => some (Value.bool q)) ?_
          rw [hfb]; exact mark_case h5
        · repeat' (first | refine d1 ?_ | refine dd ?_ | (show T _ (.ops _ (_ :: _) :: _) _ _ _; first | refine T_loadA rfl rfl rfl rfl rfl (rdOwn (vs := t.cells) (fun j u hu => by rw [Nat.zero_add]; exact hu)) rfl ?_ | refine T_call rfl rfl rfl rfl rfl (fun w hw => isWordTok_spec t (by omega) w) ?_ | refine T_callC rfl rfl rfl rfl rfl rfl rfl (fun hg w hw => isWordTok_spec t (by omega) w) ?_ | refine T_call rfl rfl rfl rfl rfl (fun w hw => normPrg_spec _ (by omega) w) ?_ | refine T_callC rfl rfl rfl rfl rfl rfl rfl (fun hg w hw => normPrg_spec _ (by omega) w) ?_) | (show T _ (.run _ _ (_ :: _) _ _ :: _) _ _ _; first | refine rc rfl rfl rfl rfl rfl rfl rfl (fun w hw => isWordTok_spec t (by omega) w) ?_ | refine rcG rfl rfl rfl rfl rfl rfl rfl rfl rfl (fun hg w hw => isWordTok_spec t (by omega) w) ?_ | refine rc rfl rfl rfl rfl rfl rfl rfl (fun w hw => normPrg_spec _ (by omega) w) ?_ | refine rcG rfl rfl rfl rfl rfl rfl rfl rfl rfl (fun hg w hw => normPrg_spec _ (by omega) w) ?_) | (show ∀ _ : Nat, T _ _ _ _ _; intro _))
          refine T_if rfl (fun h6 => ?_) (fun h6 => ?_)
          · repeat' (first | refine d1 ?_ | refine dd ?_ | (show ∀ _ : Nat, T _ _ _ _ _; intro _) | (show T _ _ _ _ _; refine T_meet () trivial ⟨rfl, ?_, trivial⟩ (Hle.refl _)))
            refine congrArg (fun q => some (Value.bool q)) ?_
            rw [hfb]; simp [h4] at h6
          · repeat' (first | refine d1 ?_ | refine dd ?_ | (show T _ (.ops _ (_ :: _) :: _) _ _ _; first | refine T_loadA rfl rfl rfl rfl rfl (rdOwn (vs := t.cells) (fun j u hu => by rw [Nat.zero_add]; exact hu)) rfl ?_ | refine T_call rfl rfl rfl rfl rfl (fun w hw => isWordTok_spec t (by omega) w) ?_ | refine T_callC rfl rfl rfl rfl rfl rfl rfl (fun hg w hw => isWordTok_spec t (by omega) w) ?_) | (show T _ (.run _ _ (_ :: _) _ _ :: _) _ _ _; first | refine rc rfl rfl rfl rfl rfl rfl rfl (fun w hw => isWordTok_spec t (by omega) w) ?_ | refine rcG rfl rfl rfl rfl rfl rfl rfl rfl rfl (fun hg w hw => isWordTok_spec t (by omega) w) ?_) | (show ∀ _ : Nat, T _ _ _ _ _; intro _) | (show T _ _ _ _ _; refine T_meet () trivial ⟨rfl, ?_, trivial⟩ (Hle.refl _)))
            refine congrArg (fun q => some (Value.bool q)) ?_
            rw [hfb]; simp_all
      · rintro ⟨⟩ _
        repeat' (first | refine d1 ?_ | refine dd ?_ | (show ∀ _ : Nat, T _ _ _ _ _; intro _))
        refine T_if rfl (fun h5 => ?_) (fun h5 => ?_)
        · repeat' (first | refine d1 ?_ | refine dd ?_ | (show ∀ _ : Nat, T _ _ _ _ _; intro _) | (show T _ (.code .ret :: _) _ _ _; refine T_retV [] rfl (Hle.none _) ⟨?_, rfl⟩))
          unfold tokE; rw [if_neg e1, if_neg e2, if_pos h5]; rfl
        have e3 : ¬ formBad t = true := by rw [h5]; simp
        repeat' (first | refine d1 ?_ | refine dd ?_ | (show ∀ _ : Nat, T _ _ _ _ _; intro _))
        refine T_if rfl (fun h6 => ?_) (fun h6 => ?_)
        · repeat' (first | refine d1 ?_ | refine dd ?_ | (show ∀ _ : Nat, T _ _ _ _ _; intro _) | (show T _ (.code .ret :: _) _ _ _; refine T_retV [] rfl (Hle.none _) ⟨?_, rfl⟩))
          simp only [decide_eq_true_eq] at h6
          unfold tokE; rw [if_neg e1, if_neg e2, if_neg e3, if_pos h6]; rfl
        simp only [decide_eq_false_iff_not] at h6
        repeat' (first | refine d1 ?_ | refine dd ?_ | (show T _ (.ops _ (_ :: _) :: _) _ _ _; first | refine T_call rfl rfl rfl rfl rfl (fun w hw => namedPrg_spec _ (by omega) w) ?_ | refine T_callC rfl rfl rfl rfl rfl rfl rfl (fun hg w hw => namedPrg_spec _ (by omega) w) ?_) | (show T _ (.run _ _ (_ :: _) _ _ :: _) _ _ _; first | refine rc rfl rfl rfl rfl rfl rfl rfl (fun w hw => namedPrg_spec _ (by omega) w) ?_ | refine rcG rfl rfl rfl rfl rfl rfl rfl rfl rfl (fun hg w hw => namedPrg_spec _ (by omega) w) ?_) | (show ∀ _ : Nat, T _ _ _ _ _; intro _))
        refine T_if rfl (fun h7 => ?_) (fun h7 => ?_)
        · repeat' (first | refine d1 ?_ | refine dd ?_ | (show ∀ _ : Nat, T _ _ _ _ _; intro _) | (show T _ (.code .ret :: _) _ _ _; refine T_retV [] rfl (Hle.none _) ⟨?_, rfl⟩))
          unfold tokE; rw [if_neg e1, if_neg e2, if_neg e3, if_neg h6, if_pos h7]; rfl
        · repeat' (first | refine d1 ?_ | refine dd ?_ | (show ∀ _ : Nat, T _ _ _ _ _; intro _) | (show T _ (.code .ret :: _) _ _ _; refine T_retV [] rfl (Hle.none _) ⟨?_, rfl⟩))
          unfold tokE; rw [if_neg e1, if_neg e2, if_neg e3, if_neg h6, if_neg (by rw [h7]; simp)]; rfl
    · skip
      show T _ [_, _, _, _, _] _ _ _
      refine T_cutAt 2 (fun _ : Unit => [(1, .pointer (some ⟨b, 0, none⟩)), (28, .bool (formBad t))]) (fun _ => [blk b t.cells 48]) (fun _ => True) rfl ?_ ?_
      · have hfb : formBad t = (!isWordB t.text || decide (t.norm = ByteArray.mk #[]) || decide ((64 : Int) < t.norm.size) || !normB t.norm) := by unfold formBad; rw [if_neg (by rw [h3]; simp), if_neg (by rw [h4]; simp)]
        repeat' (first | refine d1 ?_ | refine dd ?_ | (show T _ (.ops _ (_ :: _) :: _) _ _ _; first | refine T_call rfl rfl rfl rfl rfl (fun w hw => isWordPrg_spec _ w) ?_ | refine T_callC rfl rfl rfl rfl rfl rfl rfl (fun hg w hw => isWordPrg_spec _ w) ?_) | (show T _ (.run _ _ (_ :: _) _ _ :: _) _ _ _; first | refine rc rfl rfl rfl rfl rfl rfl rfl (fun w hw => isWordPrg_spec _ w) ?_ | refine rcG rfl rfl rfl rfl rfl rfl rfl rfl rfl (fun hg w hw => isWordPrg_spec _ w) ?_) | (show ∀ _ : Nat, T _ _ _ _ _; intro _))
        refine T_if rfl (fun h5 => ?_) (fun h5 => ?_)
        · repeat' (first | refine d1 ?_ | refine dd ?_ | (show ∀ _ : Nat, T _ _ _ _ _; intro _) | (show T _ _ _ _ _; refine T_meet () trivial ⟨rfl, ?_, trivial⟩ (Hle.refl _)))
          refine congrArg (fun q => some (Value.bool q)) ?_
          rw [hfb]; rw [h5]; rfl
        · repeat' (first | refine d1 ?_ | refine dd ?_ | (show T _ (.ops _ (_ :: _) :: _) _ _ _; first | refine T_loadA rfl rfl rfl rfl rfl (rdOwn (vs := t.cells) (fun j u hu => by rw [Nat.zero_add]; exact hu)) rfl ?_ | refine T_call rfl rfl rfl rfl rfl (fun w hw => isWordTok_spec t (by omega) w) ?_ | refine T_callC rfl rfl rfl rfl rfl rfl rfl (fun hg w hw => isWordTok_spec t (by omega) w) ?_ | refine T_call rfl rfl rfl rfl rfl (fun w hw => normPrg_spec _ (by omega) w) ?_ | refine T_callC rfl rfl rfl rfl rfl rfl rfl (fun hg w hw => normPrg_spec _ (by omega) w) ?_) | (show T _ (.run _ _ (_ :: _) _ _ :: _) _ _ _; first | refine rc rfl rfl rfl rfl rfl rfl rfl (fun w hw => isWordTok_spec t (by omega) w) ?_ | refine rcG rfl rfl rfl rfl rfl rfl rfl rfl rfl (fun hg w hw => isWordTok_spec t (by omega) w) ?_ | refine rc rfl rfl rfl rfl rfl rfl rfl (fun w hw => normPrg_spec _ (by omega) w) ?_ | refine rcG rfl rfl rfl rfl rfl rfl rfl rfl rfl (fun hg w hw => normPrg_spec _ (by omega) w) ?_) | (show ∀ _ : Nat, T _ _ _ _ _; intro _))
          refine T_if rfl (fun h6 => ?_) (fun h6 => ?_)
          · repeat' (first | refine d1 ?_ | refine dd ?_ | (show ∀ _ : Nat, T _ _ _ _ _; intro _) | (show T _ _ _ _ _; refine T_meet () trivial ⟨rfl, ?_, trivial⟩ (Hle.refl _)))
            refine congrArg (fun q => some (Value.bool q)) ?_
            rw [hfb, h3, h4, lt_le64]; rw [h3, h4] at h6; exact word_case1 h5 h6
          · repeat' (first | refine d1 ?_ | refine dd ?_ | (show T _ (.ops _ (_ :: _) :: _) _ _ _; first | refine T_loadA rfl rfl rfl rfl rfl (rdOwn (vs := t.cells) (fun j u hu => by rw [Nat.zero_add]; exact hu)) rfl ?_ | refine T_call rfl rfl rfl rfl rfl (fun w hw => isWordTok_spec t (by omega) w) ?_ | refine T_callC rfl rfl rfl rfl rfl rfl rfl (fun hg w hw => isWordTok_spec t (by omega) w) ?_) | (show T _ (.run _ _ (_ :: _) _ _ :: _) _ _ _; first | refine rc rfl rfl rfl rfl rfl rfl rfl (fun w hw => isWordTok_spec t (by omega) w) ?_ | refine rcG rfl rfl rfl rfl rfl rfl rfl rfl rfl (fun hg w hw => isWordTok_spec t (by omega) w) ?_) | (show ∀ _ : Nat, T _ _ _ _ _; intro _) | (show T _ _ _ _ _; refine T_meet () trivial ⟨rfl, ?_, trivial⟩ (Hle.refl _)))
            refine congrArg (fun q => some (Value.bool q)) ?_
            rw [hfb, h3, h4, lt_le64]; rw [h3, h4] at h6; exact word_case2 h5 h6
      · rintro ⟨⟩ _
        repeat' (first | refine d1 ?_ | refine dd ?_ | (show ∀ _ : Nat, T _ _ _ _ _; intro _))
        refine T_if rfl (fun h5 => ?_) (fun h5 => ?_)
        · repeat' (first | refine d1 ?_ | refine dd ?_ | (show ∀ _ : Nat, T _ _ _ _ _; intro _) | (show T _ (.code .ret :: _) _ _ _; refine T_retV [] rfl (Hle.none _) ⟨?_, rfl⟩))
          unfold tokE; rw [if_neg e1, if_neg e2, if_pos h5]; rfl
        have e3 : ¬ formBad t = true := by rw [h5]; simp
        repeat' (first | refine d1 ?_ | refine dd ?_ | (show ∀ _ : Nat, T _ _ _ _ _; intro _))
        refine T_if rfl (fun h6 => ?_) (fun h6 => ?_)
        · repeat' (first | refine d1 ?_ | refine dd ?_ | (show ∀ _ : Nat, T _ _ _ _ _; intro _) | (show T _ (.code .ret :: _) _ _ _; refine T_retV [] rfl (Hle.none _) ⟨?_, rfl⟩))
          simp only [decide_eq_true_eq] at h6
          unfold tokE; rw [if_neg e1, if_neg e2, if_neg e3, if_pos h6]; rfl
        simp only [decide_eq_false_iff_not] at h6
        repeat' (first | refine d1 ?_ | refine dd ?_ | (show T _ (.ops _ (_ :: _) :: _) _ _ _; first | refine T_call rfl rfl rfl rfl rfl (fun w hw => namedPrg_spec _ (by omega) w) ?_ | refine T_callC rfl rfl rfl rfl rfl rfl rfl (fun hg w hw => namedPrg_spec _ (by omega) w) ?_) | (show T _ (.run _ _ (_ :: _) _ _ :: _) _ _ _; first | refine rc rfl rfl rfl rfl rfl rfl rfl (fun w hw => namedPrg_spec _ (by omega) w) ?_ | refine rcG rfl rfl rfl rfl rfl rfl rfl rfl rfl (fun hg w hw => namedPrg_spec _ (by omega) w) ?_) | (show ∀ _ : Nat, T _ _ _ _ _; intro _))
        refine T_if rfl (fun h7 => ?_) (fun h7 => ?_)
        · repeat' (first | refine d1 ?_ | refine dd ?_ | (show ∀ _ : Nat, T _ _ _ _ _; intro _) | (show T _ (.code .ret :: _) _ _ _; refine T_retV [] rfl (Hle.none _) ⟨?_, rfl⟩))
          unfold tokE; rw [if_neg e1, if_neg e2, if_neg e3, if_neg h6, if_pos h7]; rfl
        · repeat' (first | refine d1 ?_ | refine dd ?_ | (show ∀ _ : Nat, T _ _ _ _ _; intro _) | (show T _ (.code .ret :: _) _ _ _; refine T_retV [] rfl (Hle.none _) ⟨?_, rfl⟩))
          unfold tokE; rw [if_neg e1, if_neg e2, if_neg e3, if_neg h6, if_neg (by rw [h7]; simp)]; rfl
end Go.Proofs.YtmcgificpaeipaaGreatDoor
/- Walks: the distance, by the program. -/
namespace Go.Proofs.YtmcgificpaeipaaGreatDoor
open Go.RowKit Go.Shelf Go.Proofs
set_option maxRecDepth 100000
set_option maxHeartbeats 1000000

theorem distances_spec (n m : Nat) (hn : n ≤ 65536) (hm : m ≤ 65536) (f : FuncId) (fs cs : List Value) (e : Nat → Nat → Bool) (w : World)
    (hf : ∀ i j, i < n → j < m → ∀ w', Below w.heap.size w w' → Spec Tryz.prog f (fs ++ (.int .i64 (i : Nat) :: .int .i64 (j : Nat) :: cs)) w' (fun v A => v = .bool (e i j) ∧ A = [])) :
    Spec Tryz.prog 156 [.int .i64 n, .int .i64 m, .func (.func f) fs.toArray cs.toArray] w (fun v A => v = .int .i64 (lv e n m) ∧ A = []) := by
  refine spec_of sg Tryz.func156 rfl rfl rfl ?_
  repeat' (first | refine d1 ?_ | (show ∀ _ : Nat, T _ _ _ _ _; intro _))
  show T _ [_, _] _ _ _
  refine T_cutAt 1 (fun x : Nat × Nat => [(0, .int .i64 n), (1, .int .i64 m), (2, .func (.func f) fs.toArray cs.toArray), (7, .slice (some ⟨x.1, 0, none⟩) (m + 1) (m + 1)), (8, .slice (some ⟨x.2, 0, none⟩) (m + 1) (m + 1))])
    (fun x => [blk x.1 (valV (mx (lv e 0) (fun _ => 0) 0) (m + 1)) 3, blk x.2 (valV (fun _ => 0) (m + 1)) 3]) (fun _ => True) rfl ?_ ?_
  · refine T_draw 1000 [] ?_
    refine T_dval 0 rfl (by kernel_rfl) (by kernel_rfl) (by kernel_rfl) (by kernel_rfl) (by kernel_rfl) rfl rfl (by first | exact Val.pure rfl | exact Val.vc rfl (fun hg => by first | omega | (simp only [inK]; omega) | exact True.intro | assumption) | exact Val.load rfl (fun _ => rdOwn1 rfl) | exact Val.loadA rfl (fun _ => rdAll) rfl) rfl rfl rfl (by first | exact Hle.refl _ | exact Hle.none _) ?_
    refine T_dval 1 rfl (by kernel_rfl) (by kernel_rfl) (by kernel_rfl) (by kernel_rfl) (by kernel_rfl) rfl rfl (by first | exact Val.pure rfl | exact Val.vc rfl (fun hg => by first | omega | (simp only [inK]; omega) | exact True.intro | assumption) | exact Val.load rfl (fun _ => rdOwn1 rfl) | exact Val.loadA rfl (fun _ => rdAll) rfl) rfl rfl rfl (by first | exact Hle.refl _ | exact Hle.none _) ?_
    refine T_dval 3 rfl (by kernel_rfl) (by kernel_rfl) (by kernel_rfl) (by kernel_rfl) (by kernel_rfl) rfl rfl (by first | exact Val.pure rfl | exact Val.vc rfl (fun hg => by first | omega | (simp only [inK]; omega) | exact True.intro | assumption) | exact Val.load rfl (fun _ => rdOwn1 rfl) | exact Val.loadA rfl (fun _ => rdAll) rfl) rfl rfl rfl (by first | exact Hle.refl _ | exact Hle.none _) ?_
    refine T_dval 4 rfl (by kernel_rfl) (by kernel_rfl) (by kernel_rfl) (by kernel_rfl) (by kernel_rfl) rfl rfl (by first | exact Val.pure rfl | exact Val.vc rfl (fun hg => by first | omega | (simp only [inK]; omega) | exact True.intro | assumption) | exact Val.load rfl (fun _ => rdOwn1 rfl) | exact Val.loadA rfl (fun _ => rdAll) rfl) rfl rfl rfl (by first | exact Hle.refl _ | exact Hle.none _) ?_
    refine T_dop2 2 5 (by kernel_rfl) rfl rfl (OpT.make rfl rfl rfl rfl rfl rfl rfl rfl rfl (by dsimp only; omega) (fun b1 => ⟨fun _ => Hle.none _, ?_⟩)) (OpT.make rfl rfl rfl rfl rfl rfl rfl rfl rfl (by dsimp only; omega) (fun b2 => ⟨fun _ => Hle.none _, ?_⟩))
    · refine T_dval 6 rfl (by kernel_rfl) (by kernel_rfl) (by kernel_rfl) (by kernel_rfl) (by kernel_rfl) rfl rfl (Val.pure rfl) rfl rfl rfl (Hle.none _) ?_
      refine T_dop 5 (by kernel_rfl) rfl (OpT.make rfl rfl rfl rfl rfl rfl rfl rfl rfl (by dsimp only; omega) (fun b2 => ⟨fun _ => Hle.none _, ?_⟩))
      refine T_dval 7 rfl (by kernel_rfl) (by kernel_rfl) (by kernel_rfl) (by kernel_rfl) (by kernel_rfl) rfl rfl (Val.pure rfl) rfl rfl rfl (Hle.none _) ?_
      refine T_dend (by kernel_rfl) ?_
      refine T_le (H' := [blk b1 (valV (mx (lv e 0) (fun _ => 0) 0) (m + 1)) 3, blk b2 (valV (fun _ => 0) (m + 1)) 3]) ?_ (T_meet (b1, b2) trivial ⟨rfl, rfl, rfl, rfl, rfl, trivial⟩ (Hle.refl _))
      show Hle [blk b2 (List.replicate (m + 1) (.int .i64 0)) 3, blk b1 (List.replicate (m + 1) (.int .i64 0)) 3] _
      rw [valV_replicate, valV_mx_zero]
      exact Hle.perm (List.Perm.swap _ _ _)
    · skip
      refine T_dop 2 (by kernel_rfl) rfl (OpT.make rfl rfl rfl rfl rfl rfl rfl rfl rfl (by dsimp only; omega) (fun b1 => ⟨fun _ => Hle.none _, ?_⟩))
      refine T_dval 6 rfl (by kernel_rfl) (by kernel_rfl) (by kernel_rfl) (by kernel_rfl) (by kernel_rfl) rfl rfl (Val.pure rfl) rfl rfl rfl (Hle.none _) ?_
      refine T_dval 7 rfl (by kernel_rfl) (by kernel_rfl) (by kernel_rfl) (by kernel_rfl) (by kernel_rfl) rfl rfl (Val.pure rfl) rfl rfl rfl (Hle.none _) ?_
      refine T_dend (by kernel_rfl) ?_
      refine T_le (H' := [blk b1 (valV (mx (lv e 0) (fun _ => 0) 0) (m + 1)) 3, blk b2 (valV (fun _ => 0) (m + 1)) 3]) ?_ (T_meet (b1, b2) trivial ⟨rfl, rfl, rfl, rfl, rfl, trivial⟩ (Hle.refl _))
      show Hle [blk b1 (List.replicate (m + 1) (.int .i64 0)) 3, blk b2 (List.replicate (m + 1) (.int .i64 0)) 3] _
      rw [valV_replicate, valV_mx_zero]
      exact Hle.refl _
  · rintro ⟨b1, b2⟩ _
    dsimp only
    repeat' (first | refine d1 ?_ | refine dd ?_ | (show ∀ _ : Nat, T _ _ _ _ _; intro _))
    refine T_loop (fun k : Nat => [(0, .int .i64 n), (1, .int .i64 m), (2, .func (.func f) fs.toArray cs.toArray), (7, .slice (some ⟨b1, 0, none⟩) (m + 1) (m + 1)), (8, .slice (some ⟨b2, 0, none⟩) (m + 1) (m + 1)), (20, .int .i64 ((m + 1 : Nat) : Int)), (21, .int .i64 k)])
      (fun k => [blk b1 (valV (mx (lv e 0) (fun _ => 0) k) (m + 1)) 3, blk b2 (valV (fun _ => 0) (m + 1)) 3]) (fun k => k ≤ m + 1) (fun k => m + 1 - k) 0 (Nat.zero_le _) ⟨rfl, rfl, rfl, rfl, rfl, rfl, rfl, trivial⟩ (Hle.refl _) ?_
    · intro k hk
      repeat' (first | refine d1 ?_ | refine dd ?_ | (show ∀ _ : Nat, T _ _ _ _ _; intro _))
      refine T_if rfl (fun h => ?_) (fun h => ?_)
      · simp only [decide_eq_true_eq] at h
        repeat' (first | refine d1 ?_ | refine dd ?_ | (show T _ (.ops _ (_ :: _) :: _) _ _ _; refine T_op (OpT.store (b := b1) rfl rfl rfl rfl (by rw [valV_length]; omega) ?_)) | (show ∀ _ : Nat, T _ _ _ _ _; intro _))
        refine T_back (k + 1) (by omega) (by omega) ⟨rfl, rfl, rfl, rfl, rfl, rfl, rfl, trivial⟩ ?_
        show Hle [blk b1 ((valV (mx (lv e 0) (fun _ => 0) k) (m + 1)).set (0 + k * 1) (.int .i64 k)) 3, _] _
        rw [show 0 + k * 1 = k by omega, valV_set (f := lv e 0) (x := (k : Int)) rfl]
        exact Hle.refl _
      · simp only [decide_eq_false_iff_not] at h
        rw [valV_mx_full _ _ _ _ (by omega)]
        repeat' (first | refine d1 ?_ | refine dd ?_ | (show ∀ _ : Nat, T _ _ _ _ _; intro _))
        refine T_loop (fun x : Nat × (Nat → Int) × Nat × Nat => [(0, .int .i64 n), (1, .int .i64 m), (2, .func (.func f) fs.toArray cs.toArray), (7, .slice (some ⟨x.2.2.1, 0, none⟩) (m + 1) (m + 1)), (8, .slice (some ⟨x.2.2.2, 0, none⟩) (m + 1) (m + 1)), (29, .int .i64 n), (30, .int .i64 x.1)])
          (fun x => [blk x.2.2.1 (valV (lv e x.1) (m + 1)) 3, blk x.2.2.2 (valV x.2.1 (m + 1)) 3]) (fun x => x.1 ≤ n) (fun x => n - x.1) (0, (fun _ => 0), b1, b2) (Nat.zero_le _) ⟨rfl, rfl, rfl, rfl, rfl, rfl, rfl, trivial⟩ (Hle.refl _) ?_
        rintro ⟨i, g, b1, b2⟩ hi
        dsimp only at hi ⊢
        repeat' (first | refine d1 ?_ | refine dd ?_ | (show ∀ _ : Nat, T _ _ _ _ _; intro _))
        refine T_if rfl (fun h1 => ?_) (fun h1 => ?_)
        · simp only [decide_eq_true_eq] at h1
          repeat' (first | refine d1 ?_ | refine dd ?_ | (show T _ (.ops _ (_ :: _) :: _) _ _ _; refine T_op (OpT.store (b := b2) rfl rfl rfl rfl (by rw [valV_length]; omega) ?_)) | (show ∀ _ : Nat, T _ _ _ _ _; intro _))
          refine T_le (H' := [blk b1 (valV (lv e i) (m + 1)) 3, blk b2 (valV (mx (lv e (i + 1)) g 1) (m + 1)) 3]) ?_ ?_
          · show Hle [_, blk b2 ((valV g (m + 1)).set 0 (.int .i64 ((i : Int) + 1))) 3] _
            rw [← valV_mx_zero (lv e (i + 1)) g, valV_set (f := lv e (i + 1)) (x := (i : Int) + 1) rfl]
            exact Hle.refl _
          refine T_loop (fun k : Nat => [(0, .int .i64 n), (1, .int .i64 m), (2, .func (.func f) fs.toArray cs.toArray), (7, .slice (some ⟨b1, 0, none⟩) (m + 1) (m + 1)), (8, .slice (some ⟨b2, 0, none⟩) (m + 1) (m + 1)), (29, .int .i64 n), (30, .int .i64 i), (10, .int .i64 i), (37, .int .i64 m), (38, .int .i64 k)])
            (fun k => [blk b1 (valV (lv e i) (m + 1)) 3, blk b2 (valV (mx (lv e (i + 1)) g (k + 1)) (m + 1)) 3]) (fun k => k ≤ m) (fun k => m - k) 0 (Nat.zero_le _) ⟨rfl, rfl, rfl, rfl, rfl, rfl, rfl, rfl, rfl, rfl, trivial⟩ (Hle.refl _) ?_
          intro k hk
          repeat' (first | refine d1 ?_ | refine dd ?_ | (show ∀ _ : Nat, T _ _ _ _ _; intro _))
          refine T_if rfl (fun h2 => ?_) (fun h2 => ?_)
          · simp only [decide_eq_true_eq] at h2
            repeat' (first | refine d1 ?_ | (show T _ (.ops _ (_ :: _) :: _) _ _ _; first | refine T_call rfl rfl rfl rfl rfl (fun w hw => hf i k (by omega) (by omega) w hw.below) ?_ | refine T_callC rfl rfl rfl rfl rfl rfl rfl (fun hg w hw => hf i k (by omega) (by omega) w hw.below) ?_) | (show T _ (.run _ _ (_ :: _) _ _ :: _) _ _ _; first | refine rc rfl rfl rfl rfl rfl rfl rfl (fun w hw => hf i k (by omega) (by omega) w hw.below) ?_ | refine rcG rfl rfl rfl rfl rfl rfl rfl rfl rfl (fun hg w hw => hf i k (by omega) (by omega) w hw.below) ?_) | (show ∀ _ : Nat, T _ _ _ _ _; intro _))
            show T _ (_ :: _) _ _ _
            refine T_cutAt 1 (fun _ : Unit => [(0, .int .i64 n), (1, .int .i64 m), (2, .func (.func f) fs.toArray cs.toArray), (7, .slice (some ⟨b1, 0, none⟩) (m + 1) (m + 1)), (8, .slice (some ⟨b2, 0, none⟩) (m + 1) (m + 1)), (29, .int .i64 n), (30, .int .i64 i), (10, .int .i64 i), (37, .int .i64 m), (38, .int .i64 k), (11, .int .i64 k), (12, .int .i64 (if e i k then 0 else 1))])
              (fun _ => [blk b1 (valV (lv e i) (m + 1)) 3, blk b2 (valV (mx (lv e (i + 1)) g (k + 1)) (m + 1)) 3]) (fun _ => True) rfl ?_ ?_
            · refine T_if rfl (fun h3 => ?_) (fun h3 => ?_)
              · rw [h3]
                repeat' (first | refine d1 ?_ | refine dd ?_ | (show ∀ _ : Nat, T _ _ _ _ _; intro _) | (show T _ _ _ _ _; refine T_meet () trivial ⟨rfl, rfl, rfl, rfl, rfl, rfl, rfl, rfl, rfl, rfl, rfl, rfl, trivial⟩ (Hle.refl _)))
              · rw [h3]
                repeat' (first | refine d1 ?_ | refine dd ?_ | (show ∀ _ : Nat, T _ _ _ _ _; intro _) | (show T _ _ _ _ _; refine T_meet () trivial ⟨rfl, rfl, rfl, rfl, rfl, rfl, rfl, rfl, rfl, rfl, rfl, rfl, trivial⟩ (Hle.refl _)))
            · rintro ⟨⟩ _
              have B1 := lv_bd e i k
              have B2 := lv_bd e i (k + 1)
              have B3 := lv_bd e (i + 1) k
              have B4 : 0 ≤ (if e i k then (0 : Int) else 1) ∧ (if e i k then (0 : Int) else 1) ≤ 1 := by split <;> omega
              show T _ (.code (.region _ _ true) :: _) _ _ _
              refine T_draw 22 [blk b1 (valV (lv e i) (m + 1)) 3, blk b2 (valV (mx (lv e (i + 1)) g (k + 1)) (m + 1)) 3] ?_
              refine T_dval 0 rfl (by kernel_rfl) (by kernel_rfl) (by kernel_rfl) (by kernel_rfl) (by kernel_rfl) rfl rfl (by first | exact Val.pure rfl | exact Val.vc rfl (fun hg => by first | omega | (simp only [inK]; omega) | exact True.intro | assumption) | exact Val.load rfl (fun _ => rdOwn1 rfl) | exact Val.loadA rfl (fun _ => rdAll) rfl) rfl rfl rfl (by first | exact Hle.refl _ | exact Hle.none _) ?_
              refine T_dval 1 rfl (by kernel_rfl) (by kernel_rfl) (by kernel_rfl) (by kernel_rfl) (by kernel_rfl) rfl rfl (by first | exact Val.pure rfl | exact Val.vc rfl (fun hg => by first | omega | (simp only [inK]; omega) | exact True.intro | assumption) | exact Val.load rfl (fun _ => rdOwn1 rfl) | exact Val.loadA rfl (fun _ => rdAll) rfl) rfl rfl rfl (by first | exact Hle.refl _ | exact Hle.none _) ?_
              refine T_dval 2 rfl (by kernel_rfl) (by kernel_rfl) (by kernel_rfl) (by kernel_rfl) (by kernel_rfl) rfl rfl (by first | exact Val.pure rfl | exact Val.vc rfl (fun hg => by first | omega | (simp only [inK]; omega) | exact True.intro | assumption) | exact Val.load rfl (fun _ => rdOwn1 rfl) | exact Val.loadA rfl (fun _ => rdAll) rfl) rfl rfl rfl (by first | exact Hle.refl _ | exact Hle.none _) ?_
              refine T_dval 3 rfl (by kernel_rfl) (by kernel_rfl) (by kernel_rfl) (by kernel_rfl) (by kernel_rfl) rfl rfl (by first | exact Val.pure rfl | exact Val.vc rfl (fun hg => by first | omega | (simp only [inK]; omega) | exact True.intro | assumption) | exact Val.load rfl (fun _ => rdOwn1 rfl) | exact Val.loadA rfl (fun _ => rdAll) rfl) rfl rfl rfl (by first | exact Hle.refl _ | exact Hle.none _) ?_
              refine T_dval 4 rfl (by kernel_rfl) (by kernel_rfl) (by kernel_rfl) (by kernel_rfl) (by kernel_rfl) rfl rfl (by first | exact Val.pure rfl | exact Val.vc rfl (fun hg => by first | omega | (simp only [inK]; omega) | exact True.intro | assumption) | exact Val.load rfl (fun _ => rdOwn1 rfl) | exact Val.loadA rfl (fun _ => rdAll) rfl) rfl rfl rfl (by first | exact Hle.refl _ | exact Hle.none _) ?_
              refine T_dval 5 rfl (by kernel_rfl) (by kernel_rfl) (by kernel_rfl) (by kernel_rfl) (by kernel_rfl) rfl rfl (by first | exact Val.pure rfl | exact Val.vc rfl (fun hg => by first | omega | (simp only [inK]; omega) | exact True.intro | assumption) | exact Val.load rfl (fun _ => rdOwn1 rfl) | exact Val.loadA rfl (fun _ => rdAll) rfl) rfl rfl rfl (by first | exact Hle.refl _ | exact Hle.none _) ?_
              refine T_dval 6 rfl (by kernel_rfl) (by kernel_rfl) (by kernel_rfl) (by kernel_rfl) (by kernel_rfl) rfl rfl (Val.load (v := .int .i64 (lv e i k)) rfl (fun _ => rdOwn1 (b := b1) (vget k (by omega) (by omega)))) rfl rfl rfl (by first | exact Hle.refl _ | exact Hle.none _) ?_
              refine T_dval 7 rfl (by kernel_rfl) (by kernel_rfl) (by kernel_rfl) (by kernel_rfl) (by kernel_rfl) rfl rfl (by first | exact Val.pure rfl | exact Val.vc rfl (fun hg => by first | omega | (simp only [inK]; omega) | exact True.intro | assumption) | exact Val.load rfl (fun _ => rdOwn1 rfl) | exact Val.loadA rfl (fun _ => rdAll) rfl) rfl rfl rfl (by first | exact Hle.refl _ | exact Hle.none _) ?_
              refine T_dval 8 rfl (by kernel_rfl) (by kernel_rfl) (by kernel_rfl) (by kernel_rfl) (by kernel_rfl) rfl rfl (by first | exact Val.pure rfl | exact Val.vc rfl (fun hg => by first | omega | (simp only [inK]; omega) | exact True.intro | assumption) | exact Val.load rfl (fun _ => rdOwn1 rfl) | exact Val.loadA rfl (fun _ => rdAll) rfl) rfl rfl rfl (by first | exact Hle.refl _ | exact Hle.none _) ?_
              refine T_dval 9 rfl (by kernel_rfl) (by kernel_rfl) (by kernel_rfl) (by kernel_rfl) (by kernel_rfl) rfl rfl (by first | exact Val.pure rfl | exact Val.vc rfl (fun hg => by first | omega | (simp only [inK]; omega) | exact True.intro | assumption) | exact Val.load rfl (fun _ => rdOwn1 rfl) | exact Val.loadA rfl (fun _ => rdAll) rfl) rfl rfl rfl (by first | exact Hle.refl _ | exact Hle.none _) ?_
              refine T_dval 10 rfl (by kernel_rfl) (by kernel_rfl) (by kernel_rfl) (by kernel_rfl) (by kernel_rfl) rfl rfl (by first | exact Val.pure rfl | exact Val.vc rfl (fun hg => by first | omega | (simp only [inK]; omega) | exact True.intro | assumption) | exact Val.load rfl (fun _ => rdOwn1 rfl) | exact Val.loadA rfl (fun _ => rdAll) rfl) rfl rfl rfl (by first | exact Hle.refl _ | exact Hle.none _) ?_
              refine T_dval 11 rfl (by kernel_rfl) (by kernel_rfl) (by kernel_rfl) (by kernel_rfl) (by kernel_rfl) rfl rfl (by first | exact Val.pure rfl | exact Val.vc rfl (fun hg => by first | omega | (simp only [inK]; omega) | exact True.intro | assumption) | exact Val.load rfl (fun _ => rdOwn1 rfl) | exact Val.loadA rfl (fun _ => rdAll) rfl) rfl rfl rfl (by first | exact Hle.refl _ | exact Hle.none _) ?_
              refine T_dval 12 rfl (by kernel_rfl) (by kernel_rfl) (by kernel_rfl) (by kernel_rfl) (by kernel_rfl) rfl rfl (by first | exact Val.pure rfl | exact Val.vc rfl (fun hg => by first | omega | (simp only [inK]; omega) | exact True.intro | assumption) | exact Val.load rfl (fun _ => rdOwn1 rfl) | exact Val.loadA rfl (fun _ => rdAll) rfl) rfl rfl rfl (by first | exact Hle.refl _ | exact Hle.none _) ?_
              refine T_dval 13 rfl (by kernel_rfl) (by kernel_rfl) (by kernel_rfl) (by kernel_rfl) (by kernel_rfl) rfl rfl (Val.load (v := .int .i64 (lv e i (k + 1))) rfl (fun _ => rdOwn1 (b := b1) (vget (k + 1) (by omega) (by omega)))) rfl rfl rfl (by first | exact Hle.refl _ | exact Hle.none _) ?_
              refine T_dval 14 rfl (by kernel_rfl) (by kernel_rfl) (by kernel_rfl) (by kernel_rfl) (by kernel_rfl) rfl rfl (by first | exact Val.pure rfl | exact Val.vc rfl (fun hg => by first | omega | (simp only [inK]; omega) | exact True.intro | assumption) | exact Val.load rfl (fun _ => rdOwn1 rfl) | exact Val.loadA rfl (fun _ => rdAll) rfl) rfl rfl rfl (by first | exact Hle.refl _ | exact Hle.none _) ?_
              refine T_dval 15 rfl (by kernel_rfl) (by kernel_rfl) (by kernel_rfl) (by kernel_rfl) (by kernel_rfl) rfl rfl (by first | exact Val.pure rfl | exact Val.vc rfl (fun hg => by first | omega | (simp only [inK]; omega) | exact True.intro | assumption) | exact Val.load rfl (fun _ => rdOwn1 rfl) | exact Val.loadA rfl (fun _ => rdAll) rfl) rfl rfl rfl (by first | exact Hle.refl _ | exact Hle.none _) ?_
              refine T_dval 16 rfl (by kernel_rfl) (by kernel_rfl) (by kernel_rfl) (by kernel_rfl) (by kernel_rfl) rfl rfl (by first | exact Val.pure rfl | exact Val.vc rfl (fun hg => by first | omega | (simp only [inK]; omega) | exact True.intro | assumption) | exact Val.load rfl (fun _ => rdOwn1 rfl) | exact Val.loadA rfl (fun _ => rdAll) rfl) rfl rfl rfl (by first | exact Hle.refl _ | exact Hle.none _) ?_
              refine T_dval 17 rfl (by kernel_rfl) (by kernel_rfl) (by kernel_rfl) (by kernel_rfl) (by kernel_rfl) rfl rfl (by first | exact Val.pure rfl | exact Val.vc rfl (fun hg => by first | omega | (simp only [inK]; omega) | exact True.intro | assumption) | exact Val.load rfl (fun _ => rdOwn1 rfl) | exact Val.loadA rfl (fun _ => rdAll) rfl) rfl rfl rfl (by first | exact Hle.refl _ | exact Hle.none _) ?_
              refine T_dval 18 rfl (by kernel_rfl) (by kernel_rfl) (by kernel_rfl) (by kernel_rfl) (by kernel_rfl) rfl rfl (Val.load (v := .int .i64 (lv e (i + 1) k)) rfl (fun _ => rdOwn1 (b := b2) (vgetm k (by omega) (by omega) (by omega)))) rfl rfl rfl (by first | exact Hle.refl _ | exact Hle.none _) ?_
              refine T_dval 19 rfl (by kernel_rfl) (by kernel_rfl) (by kernel_rfl) (by kernel_rfl) (by kernel_rfl) rfl rfl (by first | exact Val.pure rfl | exact Val.vc rfl (fun hg => by first | omega | (simp only [inK]; omega) | exact True.intro | assumption) | exact Val.load rfl (fun _ => rdOwn1 rfl) | exact Val.loadA rfl (fun _ => rdAll) rfl) rfl rfl rfl (by first | exact Hle.refl _ | exact Hle.none _) ?_
              refine T_dval 20 rfl (by kernel_rfl) (by kernel_rfl) (by kernel_rfl) (by kernel_rfl) (by kernel_rfl) rfl rfl (by first | exact Val.pure rfl | exact Val.vc rfl (fun hg => by first | omega | (simp only [inK]; omega) | exact True.intro | assumption) | exact Val.load rfl (fun _ => rdOwn1 rfl) | exact Val.loadA rfl (fun _ => rdAll) rfl) rfl rfl rfl (by first | exact Hle.refl _ | exact Hle.none _) ?_
              refine T_dval 21 rfl (by kernel_rfl) (by kernel_rfl) (by kernel_rfl) (by kernel_rfl) (by kernel_rfl) rfl rfl (by first | exact Val.pure rfl | exact Val.vc rfl (fun hg => by first | omega | (simp only [inK]; omega) | exact True.intro | assumption) | exact Val.load rfl (fun _ => rdOwn1 rfl) | exact Val.loadA rfl (fun _ => rdAll) rfl) rfl rfl rfl (by first | exact Hle.refl _ | exact Hle.none _) ?_
              refine T_dop 22 (by kernel_rfl) rfl (OpT.store (b := b2) rfl rfl rfl rfl (by rw [valV_length]; omega) ⟨fun h => (by cases h), ?_⟩)
              refine T_dend (by kernel_rfl) ?_
              repeat' (first | refine d1 ?_ | refine dd ?_ | (show ∀ _ : Nat, T _ _ _ _ _; intro _))
              refine T_back (k + 1) (by omega) (by omega) ⟨rfl, rfl, rfl, rfl, rfl, rfl, rfl, rfl, rfl, rfl, trivial⟩ ?_
              show Hle [_, blk b2 ((valV (mx (lv e (i + 1)) g (k + 1)) (m + 1)).set (0 + (k + 1) * 1) (.int .i64 (min (min (lv e i k + if e i k then 0 else 1) (lv e i (k + 1) + 1)) (lv e (i + 1) k + 1)))) 3] _
              rw [show 0 + (k + 1) * 1 = k + 1 by omega, valV_set (f := lv e (i + 1)) (by rw [lv_step]; omega)]
              exact Hle.refl _
          · simp only [decide_eq_false_iff_not] at h2
            rw [valV_mx_full _ _ _ _ (by omega)]
            repeat' (first | refine d1 ?_ | refine dd ?_ | (show ∀ _ : Nat, T _ _ _ _ _; intro _))
            exact T_back (i + 1, lv e i, b2, b1) (Nat.succ_le_of_lt (by omega)) (by dsimp only; omega) ⟨rfl, rfl, rfl, rfl, rfl, rfl, rfl, trivial⟩ (Hle.perm (List.Perm.swap _ _ _))
        · simp only [decide_eq_false_iff_not] at h1
          have hin : i = n := by omega
          subst hin
          repeat' (first | refine d1 ?_ | refine dd ?_ | (show T _ (.ops _ (_ :: _) :: _) _ _ _; refine T_load (v := .int .i64 (lv e i m)) rfl rfl rfl rfl rfl (rdOwn1 (b := b1) (vget m (by omega) (by omega))) ?_) | (show ∀ _ : Nat, T _ _ _ _ _; intro _) | (show T _ (.code .ret :: _) _ _ _; refine T_retV [] rfl (Hle.none _) ⟨rfl, rfl⟩))

/-- Two bytes of two strings are equal. -/
def eqB (a b : ByteArray) (i j : Nat) : Bool := decide (((byteAt a (i : Int)).toNat : Int) = ((byteAt b (j : Int)).toNat : Int))
theorem equal1_spec (a b : ByteArray) (p2 p3 ba bb ca cb i j : Nat) (hi : i < a.size) (hj : j < b.size) (w : World) (h2 : RdC w p2 0 [.slice (some ⟨ba, 0, none⟩) a.size ca]) (h3 : RdC w p3 0 [.slice (some ⟨bb, 0, none⟩) b.size cb]) (ha : RdC w ba 0 (byteVals a)) (hb : RdC w bb 0 (byteVals b)) :
    Spec Tryz.prog 158 [.int .i64 i, .int .i64 j, .pointer (some ⟨p2, 0, none⟩), .pointer (some ⟨p3, 0, none⟩)] w (fun v A => v = .bool (eqB a b i j) ∧ A = []) := by
  refine spec_of sg Tryz.func158 rfl rfl rfl ?_
  have hx : ∀ {s : ByteArray} {c k : Nat}, RdC w c 0 (byteVals s) → k < s.size → RdC w c (0 + (k : Int).toNat * 1) [.int .u8 ((byteAt s (k : Int)).toNat : Nat)] := by
    intro s c k h hk q u hu
    rw [show 0 + (k : Int).toNat * 1 = k by omega]
    cases q with
    | zero =>
      simp at hu; subst hu
      have := h k _ (byteVals_get hk)
      simpa using this
    | succ q => simp at hu
  repeat' (first | refine d1 ?_ | (show ∀ _ : Nat, T _ _ _ _ _; intro _))
  show T _ (.code (.region _ _ true) :: _) _ _ _
  refine T_draw 1000 [] ?_
  refine T_dval 0 rfl (by kernel_rfl) (by kernel_rfl) (by kernel_rfl) (by kernel_rfl) (by kernel_rfl) rfl rfl (Val.load (v := .slice (some ⟨ba, 0, none⟩) a.size ca) rfl (fun _ => rdOld h2)) rfl rfl rfl (by first | exact Hle.refl _ | exact Hle.none _) ?_
  refine T_dval 1 rfl (by kernel_rfl) (by kernel_rfl) (by kernel_rfl) (by kernel_rfl) (by kernel_rfl) rfl rfl (by first | exact Val.pure rfl | exact Val.vc rfl (fun hg => by first | omega | (simp only [inK]; omega) | exact True.intro | assumption) | exact Val.load rfl (fun _ => rdOwn1 rfl) | exact Val.loadA rfl (fun _ => rdAll) rfl) rfl rfl rfl (by first | exact Hle.refl _ | exact Hle.none _) ?_
  refine T_dval 2 rfl (by kernel_rfl) (by kernel_rfl) (by kernel_rfl) (by kernel_rfl) (by kernel_rfl) rfl rfl (by first | exact Val.pure rfl | exact Val.vc rfl (fun hg => by first | omega | (simp only [inK]; omega) | exact True.intro | assumption) | exact Val.load rfl (fun _ => rdOwn1 rfl) | exact Val.loadA rfl (fun _ => rdAll) rfl) rfl rfl rfl (by first | exact Hle.refl _ | exact Hle.none _) ?_
  refine T_dval 3 rfl (by kernel_rfl) (by kernel_rfl) (by kernel_rfl) (by kernel_rfl) (by kernel_rfl) rfl rfl (Val.load (v := .int .u8 ((byteAt a (i : Int)).toNat : Nat)) rfl (fun _ => rdOld (hx ha hi))) rfl rfl rfl (by first | exact Hle.refl _ | exact Hle.none _) ?_
  refine T_dval 4 rfl (by kernel_rfl) (by kernel_rfl) (by kernel_rfl) (by kernel_rfl) (by kernel_rfl) rfl rfl (Val.load (v := .slice (some ⟨bb, 0, none⟩) b.size cb) rfl (fun _ => rdOld h3)) rfl rfl rfl (by first | exact Hle.refl _ | exact Hle.none _) ?_
  refine T_dval 5 rfl (by kernel_rfl) (by kernel_rfl) (by kernel_rfl) (by kernel_rfl) (by kernel_rfl) rfl rfl (by first | exact Val.pure rfl | exact Val.vc rfl (fun hg => by first | omega | (simp only [inK]; omega) | exact True.intro | assumption) | exact Val.load rfl (fun _ => rdOwn1 rfl) | exact Val.loadA rfl (fun _ => rdAll) rfl) rfl rfl rfl (by first | exact Hle.refl _ | exact Hle.none _) ?_
  refine T_dval 6 rfl (by kernel_rfl) (by kernel_rfl) (by kernel_rfl) (by kernel_rfl) (by kernel_rfl) rfl rfl (by first | exact Val.pure rfl | exact Val.vc rfl (fun hg => by first | omega | (simp only [inK]; omega) | exact True.intro | assumption) | exact Val.load rfl (fun _ => rdOwn1 rfl) | exact Val.loadA rfl (fun _ => rdAll) rfl) rfl rfl rfl (by first | exact Hle.refl _ | exact Hle.none _) ?_
  refine T_dval 7 rfl (by kernel_rfl) (by kernel_rfl) (by kernel_rfl) (by kernel_rfl) (by kernel_rfl) rfl rfl (Val.load (v := .int .u8 ((byteAt b (j : Int)).toNat : Nat)) rfl (fun _ => rdOld (hx hb hj))) rfl rfl rfl (by first | exact Hle.refl _ | exact Hle.none _) ?_
  refine T_dval 8 rfl (by kernel_rfl) (by kernel_rfl) (by kernel_rfl) (by kernel_rfl) (by kernel_rfl) rfl rfl (by first | exact Val.pure rfl | exact Val.vc rfl (fun hg => by first | omega | (simp only [inK]; omega) | exact True.intro | assumption) | exact Val.load rfl (fun _ => rdOwn1 rfl) | exact Val.loadA rfl (fun _ => rdAll) rfl) rfl rfl rfl (by first | exact Hle.refl _ | exact Hle.none _) ?_
  refine T_dval 9 rfl (by kernel_rfl) (by kernel_rfl) (by kernel_rfl) (by kernel_rfl) (by kernel_rfl) rfl rfl (by first | exact Val.pure rfl | exact Val.vc rfl (fun hg => by first | omega | (simp only [inK]; omega) | exact True.intro | assumption) | exact Val.load rfl (fun _ => rdOwn1 rfl) | exact Val.loadA rfl (fun _ => rdAll) rfl) rfl rfl rfl (by first | exact Hle.refl _ | exact Hle.none _) ?_
  refine T_dend (by kernel_rfl) ?_
  repeat' (first | refine d1 ?_ | refine dd ?_ | (show ∀ _ : Nat, T _ _ _ _ _; intro _) | (show T _ (.code .ret :: _) _ _ _; refine T_retV [] rfl (Hle.none _) ⟨rfl, rfl⟩))
theorem equal_spec (sa sb : Value) (ha : sa.cells = #[sa]) (hb : sb.cells = #[sb]) (w : World) : Spec Tryz.prog 157 [sa, sb] w (fun v A => ∃ p2 p3, v = .func (.func 158) #[] #[.pointer (some ⟨p2, 0, none⟩), .pointer (some ⟨p3, 0, none⟩)] ∧ A = [blk p3 [sb] 40, blk p2 [sa] 40]) := by
  refine spec_of sg Tryz.func157 rfl rfl rfl ?_
  refine T_op (OpT.box (cs := [sa]) rfl rfl rfl (by rw [ha]) rfl rfl rfl (fun _ => ?_))
  refine T_op (OpT.box (cs := [sb]) rfl rfl rfl (by rw [hb]) rfl rfl rfl (fun _ => ?_))
  repeat' (first | refine d1 ?_ | refine dd ?_ | (show ∀ _ : Nat, T _ _ _ _ _; intro _) | (show T _ (.code .ret :: _) _ _ _; refine T_retV _ rfl (Hle.refl _) ⟨_, _, rfl, rfl⟩))
theorem of_spec (a b : ByteArray) (ha : a.size ≤ 65536) (hb : b.size ≤ 65536) (w : World) : Spec Tryz.prog 150 [.string a, .string b] w (fun v A => v = .int .i64 (lv (eqB a b) a.size b.size) ∧ A = []) := by
  refine spec_of sg Tryz.func150 rfl rfl rfl ?_
  repeat' (first | refine d1 ?_ | refine dd ?_ | (show ∀ _ : Nat, T _ _ _ _ _; intro _))
  refine T_op (OpT.bytes rfl rfl rfl rfl rfl (fun ba ca => ?_))
  repeat' (first | refine d1 ?_ | refine dd ?_ | (show ∀ _ : Nat, T _ _ _ _ _; intro _))
  refine T_op (OpT.bytes rfl rfl rfl rfl rfl (fun bb cb => ?_))
  refine T_op (OpT.call rfl rfl rfl rfl rfl (fun w _ => equal_spec _ _ rfl rfl w) ?_)
  rintro v A ⟨p2, p3, rfl, rfl⟩
  show T _ _ _ _ [blk p3 [.slice (some ⟨bb, 0, none⟩) b.size cb] 40, blk p2 [.slice (some ⟨ba, 0, none⟩) a.size ca] 40, byt bb 5 b, byt ba 5 a]
  repeat' (first | refine d1 ?_ | refine dd ?_ | (show T _ (.ops _ (_ :: _) :: _) _ _ _; refine T_call rfl rfl rfl rfl rfl (fun w hw => distances_spec a.size b.size ha hb _ [] [.pointer (some ⟨p2, 0, none⟩), .pointer (some ⟨p3, 0, none⟩)] (eqB a b) w (fun i j hi hj w' hb' => equal1_spec a b p2 p3 ba bb ca cb i j hi hj w' ((rdOwn1 (b := p2) rfl w hw).below hb') ((rdOwn1 (b := p3) rfl w hw).below hb') ((rdByt (b := ba) w hw).below hb') ((rdByt (b := bb) w hw).below hb'))) ?_) | (show ∀ _ : Nat, T _ _ _ _ _; intro _) | (show T _ (.code .ret :: _) _ _ _; refine T_retV [] rfl (Hle.none _) ⟨rfl, rfl⟩))
theorem longPrg_spec (n m : Int) (w : World) : Spec Tryz.prog 149 [.int .i64 n, .int .i64 m] w (fun v A => v = .bool (decide (256 < max n m)) ∧ A = []) := by
  refine spec_of sg Tryz.func149 rfl rfl rfl ?_
  repeat' (first | refine d1 ?_ | refine dd ?_ | (show ∀ _ : Nat, T _ _ _ _ _; intro _) | (show T _ (.code .ret :: _) _ _ _; refine T_retV [] rfl (Hle.none _) ⟨rfl, rfl⟩))
/-- The distance of two strings, and whether it is told. -/
theorem distPrg_spec (a b : ByteArray) (w : World) : Spec Tryz.prog 137 [.string a, .string b] w (fun v A => v = (if 256 < max (a.size : Int) b.size then .tuple #[.int .i64 0, .int .i64 4] else .tuple #[.int .i64 (lv (eqB a b) a.size b.size), .int .i64 0]) ∧ A = []) := by
  refine spec_of sg Tryz.func137 rfl rfl rfl ?_
  repeat' (first | refine d1 ?_ | refine dd ?_ | (show T _ (.ops _ (_ :: _) :: _) _ _ _; first | refine T_call rfl rfl rfl rfl rfl (fun w hw => longPrg_spec _ _ w) ?_ | refine T_callC rfl rfl rfl rfl rfl rfl rfl (fun hg w hw => longPrg_spec _ _ w) ?_) | (show T _ (.run _ _ (_ :: _) _ _ :: _) _ _ _; first | refine rc rfl rfl rfl rfl rfl rfl rfl (fun w hw => longPrg_spec _ _ w) ?_ | refine rcG rfl rfl rfl rfl rfl rfl rfl rfl rfl (fun hg w hw => longPrg_spec _ _ w) ?_) | (show ∀ _ : Nat, T _ _ _ _ _; intro _))
  refine T_if rfl (fun h => ?_) (fun h => ?_)
  · simp only [decide_eq_true_eq] at h
    repeat' (first | refine d1 ?_ | refine dd ?_ | (show ∀ _ : Nat, T _ _ _ _ _; intro _) | (show T _ (.code .ret :: _) _ _ _; refine T_retV [] rfl (Hle.none _) ⟨by rw [if_pos h]; rfl, rfl⟩))
  · simp only [decide_eq_false_iff_not] at h
    repeat' (first | refine d1 ?_ | refine dd ?_ | (show T _ (.ops _ (_ :: _) :: _) _ _ _; first | refine T_call rfl rfl rfl rfl rfl (fun w hw => of_spec a b (by omega) (by omega) w) ?_ | refine T_callC rfl rfl rfl rfl rfl rfl rfl (fun hg w hw => of_spec a b (by omega) (by omega) w) ?_) | (show T _ (.run _ _ (_ :: _) _ _ :: _) _ _ _; first | refine rc rfl rfl rfl rfl rfl rfl rfl (fun w hw => of_spec a b (by omega) (by omega) w) ?_ | refine rcG rfl rfl rfl rfl rfl rfl rfl rfl rfl (fun hg w hw => of_spec a b (by omega) (by omega) w) ?_) | (show ∀ _ : Nat, T _ _ _ _ _; intro _) | (show T _ (.code .ret :: _) _ _ _; refine T_retV [] rfl (Hle.none _) ⟨by rw [if_neg h]; rfl, rfl⟩))
end Go.Proofs.YtmcgificpaeipaaGreatDoor
