/- Costs as a metric: plain laws: the triangle inequality of distances, of the default costs; fewer tokens. No program in sight. -/
import Derived.Test.YtiglobijdegjdaaDoorSpecQ
namespace Go.Proofs.YtiglobijdegjdaaDoor

def eqF (f g : Nat → Int) (i j : Nat) : Bool := decide (f i = g j)
theorem lv_diff (e : Nat → Nat → Bool) : ∀ i j : Nat, (i : Int) ≤ j + lv e i j ∧ (j : Int) ≤ i + lv e i j
  | 0, j => by rw [lv_zero]; omega
  | i + 1, 0 => by rw [lv_left]; omega
  | i + 1, j + 1 => by
    have h1 := lv_diff e i (j + 1)
    have h2 := lv_diff e (i + 1) j
    have h3 := lv_diff e i j
    rw [lv_step]
    split <;> omega
termination_by i j => (i, j)
theorem lv_up (e : Nat → Nat → Bool) (i k : Nat) : lv e (i + 1) (k + 1) ≤ lv e i (k + 1) + 1 ∧ lv e (i + 1) (k + 1) ≤ lv e (i + 1) k + 1 ∧ lv e (i + 1) (k + 1) ≤ lv e i k + (if e i k then 0 else 1) := by
  rw [lv_step]; omega
theorem lv_min (e : Nat → Nat → Bool) (i k : Nat) : lv e (i + 1) (k + 1) = lv e i (k + 1) + 1 ∨ lv e (i + 1) (k + 1) = lv e (i + 1) k + 1 ∨ lv e (i + 1) (k + 1) = lv e i k + (if e i k then 0 else 1) := by
  rw [lv_step]; omega
theorem lv_tri (f g h : Nat → Int) : ∀ n i j k, i + j + k ≤ n → lv (eqF f h) i k ≤ lv (eqF f g) i j + lv (eqF g h) j k
  | 0, i, j, k, hn => by
    obtain rfl : i = 0 := by omega
    obtain rfl : j = 0 := by omega
    obtain rfl : k = 0 := by omega
    rw [lv_zero, lv_zero, lv_zero]; omega
  | n + 1, i, j, k, hn => by
    match i, j, k with
    | 0, j, k =>
      rw [lv_zero, lv_zero]
      have := lv_diff (eqF g h) j k
      omega
    | i, 0, k =>
      have h1 := lv_bd (eqF f h) i k
      have h2 := lv_diff (eqF f g) i 0
      rw [lv_zero]; omega
    | i, j, 0 =>
      have h1 := lv_bd (eqF f h) i 0
      have h2 := lv_diff (eqF f g) i j
      have h3 := lv_diff (eqF g h) j 0
      omega
    | i + 1, j + 1, k + 1 =>
      obtain ⟨u1, u2, u3⟩ := lv_up (eqF f h) i k
      rcases lv_min (eqF f g) i j with p | p | p
      · have ih := lv_tri f g h n i (j + 1) (k + 1) (by omega)
        omega
      · rcases lv_min (eqF g h) j k with q | q | q
        · have ih := lv_tri f g h n (i + 1) j (k + 1) (by omega)
          omega
        · have ih := lv_tri f g h n (i + 1) (j + 1) k (by omega)
          omega
        · have ih := lv_tri f g h n (i + 1) j k (by omega)
          have : (0 : Int) ≤ if eqF g h j k then 0 else 1 := by split <;> omega
          omega
      · rcases lv_min (eqF g h) j k with q | q | q
        · have ih := lv_tri f g h n i j (k + 1) (by omega)
          have : (0 : Int) ≤ if eqF f g i j then 0 else 1 := by split <;> omega
          omega
        · have ih := lv_tri f g h n (i + 1) (j + 1) k (by omega)
          omega
        · have ih := lv_tri f g h n i j k (by omega)
          have : (if eqF f h i k then (0 : Int) else 1) ≤ (if eqF f g i j then 0 else 1) + (if eqF g h j k then 0 else 1) := by
            simp only [eqF, decide_eq_true_eq]
            (repeat' split) <;> omega
          omega
theorem lv_pos (e : Nat → Nat → Bool) : ∀ i j, lv e i j = 0 → i = j ∧ ∀ q, q < i → e q q = true
  | 0, j => by rw [lv_zero]; intro h; exact ⟨by omega, fun q hq => by omega⟩
  | i + 1, 0 => by rw [lv_left]; intro h; omega
  | i + 1, j + 1 => by
    intro h
    have h1 := (lv_bd e i (j + 1)).1
    have h2 := (lv_bd e (i + 1) j).1
    have h3 := (lv_bd e i j).1
    rcases lv_min e i j with p | p | p
    · omega
    · omega
    · have hz : lv e i j = 0 ∧ e i j = true := by
        cases he : e i j with
        | true => rw [he] at p; simp at p; exact ⟨by omega, rfl⟩
        | false => rw [he] at p; simp at p; omega
      obtain ⟨e1, e2⟩ := lv_pos e i j hz.1
      subst e1
      refine ⟨rfl, fun q hq => ?_⟩
      rcases Nat.lt_or_ge q i with hh | hh
      · exact e2 q hh
      · rw [show q = i by omega]; exact hz.2
termination_by i j => (i, j)
theorem distS_tri (a b x : ByteArray) : distS a b ≤ distS a x + distS x b :=
  lv_tri (fun i => ((byteAt a (i : Int)).toNat : Int)) (fun i => ((byteAt x (i : Int)).toNat : Int)) (fun i => ((byteAt b (i : Int)).toNat : Int)) _ a.size x.size b.size (Nat.le_refl _)
theorem distS_pos {a b : ByteArray} (h : a ≠ b) : 1 ≤ distS a b := by
  have h0 := (distS_ge a b).1
  by_cases h1 : distS a b = 0
  · exfalso
    obtain ⟨e1, e2⟩ := lv_pos _ _ _ h1
    apply h
    refine ByteArray.ext (Array.ext' (List.ext_getElem? fun j => ?_))
    rcases Nat.lt_or_ge j a.size with hj | hj
    · rw [byteAt_nat a j hj, byteAt_nat b j (by omega)]
      have := e2 j hj
      simp only [eqS, decide_eq_true_eq] at this
      congr 1
      apply UInt8.toNat_inj.1; omega
    · rw [List.getElem?_eq_none (by simpa using hj), List.getElem?_eq_none (by simp; omega)]
  · omega

/-- A token, or the gap. -/
def costO (c : Costs) : Option Tok → Option Tok → Int
  | none, none => 0
  | some a, none => gapC c a
  | none, some b => gapC c b
  | some a, some b => pairC c a b
def tokO (l : List Tok) (i : Nat) : Option Tok := if i < l.length then some (tkA l i) else none
theorem matC_O (c : Costs) (l : List Tok) (i k : Nat) (hi : i ≤ l.length) (hk : k ≤ l.length) : matC c l i k = costO c (tokO l i) (tokO l k) := by
  unfold matC tokO
  by_cases h : i = k
  · subst h
    rw [if_pos rfl]
    split
    · exact (pairC_self c _ _ rfl).symm
    · rfl
  rw [if_neg h]
  rcases Nat.lt_or_ge i k with h1 | h1
  · rw [Nat.max_eq_right (by omega), Nat.min_eq_left (by omega), if_pos (show i < l.length by omega)]
    by_cases h2 : k = l.length
    · rw [if_pos h2, if_neg (show ¬ k < l.length by omega)]; rfl
    · rw [if_neg h2, if_pos (show k < l.length by omega)]; rfl
  · rw [Nat.max_eq_left (by omega), Nat.min_eq_right (by omega)]
    rw [if_pos (show k < l.length by omega)]
    by_cases h2 : i = l.length
    · rw [if_pos h2, if_neg (show ¬ i < l.length by omega)]; rfl
    · rw [if_neg h2, if_pos (show i < l.length by omega)]; exact pairC_swap c _ _
/-- The triangle inequality, for all triples of tokens and the gap. -/
def metO (c : Costs) (l : List (Option Tok)) : Prop := ∀ a ∈ l, ∀ b ∈ l, ∀ x ∈ l, costO c a b ≤ costO c a x + costO c x b
theorem tokO_mem {l : List Tok} {a : Option Tok} : a ∈ none :: l.map some ↔ ∃ i, i ≤ l.length ∧ tokO l i = a := by
  rw [List.mem_cons, List.mem_map]
  unfold tokO
  constructor
  · rintro (rfl | ⟨t, ht, rfl⟩)
    · exact ⟨l.length, Nat.le_refl _, if_neg (by omega)⟩
    · obtain ⟨i, hi, e⟩ := List.getElem_of_mem ht
      refine ⟨i, by omega, ?_⟩
      rw [if_pos hi]
      congr 1
      have := tkA_get hi
      rw [List.getElem?_eq_getElem hi, e] at this
      exact (Option.some.inj this).symm
  · rintro ⟨i, hi, rfl⟩
    split
    · rename_i h
      exact .inr ⟨_, tkA_mem h, rfl⟩
    · exact .inl rfl
theorem metP_O (c : Costs) (l : List Tok) : metP c l ↔ metO c (none :: l.map some) := by
  unfold metP metO
  constructor
  · intro h a ha b hb x hx
    obtain ⟨i, hi, rfl⟩ := tokO_mem.1 ha
    obtain ⟨k, hk, rfl⟩ := tokO_mem.1 hb
    obtain ⟨j, hj, rfl⟩ := tokO_mem.1 hx
    rw [← matC_O c l _ _ hi hk, ← matC_O c l _ _ hi hj, ← matC_O c l _ _ hj hk]
    exact h i k j hi hk hj
  · intro h i k j hi hk hj
    rw [matC_O c l _ _ hi hk, matC_O c l _ _ hi hj, matC_O c l _ _ hj hk]
    exact h _ (tokO_mem.2 ⟨i, hi, rfl⟩) _ (tokO_mem.2 ⟨k, hk, rfl⟩) _ (tokO_mem.2 ⟨j, hj, rfl⟩)
theorem metP_tail {c : Costs} {t : Tok} {l : List Tok} (h : metP c (t :: l)) : metP c l := by
  rw [metP_O] at h ⊢
  have hm : ∀ a, a ∈ none :: l.map some → a ∈ none :: (t :: l).map some := by
    intro a ha
    simp only [List.map_cons, List.mem_cons] at ha ⊢
    rcases ha with ha | ha
    · exact .inl ha
    · exact .inr (.inr ha)
  exact fun a ha b hb x hx => h a (hm a ha) b (hm b hb) x (hm x hx)
theorem costO_swap (c : Costs) (a b : Option Tok) : costO c a b = costO c b a := by
  cases a <;> cases b <;> first | rfl | exact pairC_swap c _ _
/-- A token that is no gap, and whose Norm is its Text. -/
def plainT (t : Tok) : Prop := hasN t.flags 2 = false ∧ t.norm = t.text
theorem pairC_plain {a b : Tok} (ha : plainT a) (hb : plainT b) (h : a.text ≠ b.text) : pairC defaultC a b = min 50 (20 * distS a.text b.text) := by
  have hd := distS_pos h
  unfold pairC
  rw [if_neg h, if_neg (by rw [ha.1, hb.1, ha.2, hb.2]; simp [h]), ha.2, hb.2]
  unfold defaultC
  dsimp only
  omega
theorem gapC_plain (a : Tok) : gapC defaultC a = if hasN a.flags 8 then 20 else 40 := by
  unfold gapC defaultC
  dsimp only
  split <;> rfl
theorem punct_one {a : Tok} (h : tokE a = 0) (hg : hasN a.flags 2 = false) (hp : hasN a.flags 8 = true) : a.text.size = 1 ∧ (kAt a.text 0 = 5 ∨ kAt a.text 0 = 4) := by
  have hf : formBad a = false := by
    cases hf : formBad a with
    | false => rfl
    | true =>
      unfold tokE at h
      rw [hf] at h
      (repeat' split at h) <;> first | omega | simp_all
  unfold formBad at hf
  rw [hg, hp] at hf
  simp at hf
  omega
theorem word_one {a : Tok} (h : tokE a = 0) (hg : hasN a.flags 2 = false) (hp : hasN a.flags 8 = false) : kAt a.text 0 = 1 ∨ kAt a.text 0 = 3 := by
  have hf : formBad a = false := by
    cases hf : formBad a with
    | false => rfl
    | true =>
      unfold tokE at h
      rw [hf] at h
      (repeat' split at h) <;> first | omega | simp_all
  unfold formBad at hf
  rw [hg, hp] at hf
  simp at hf
  have := hf.1.1.1
  unfold isWordB at this
  simp at this
  omega
theorem gap_pair {a x : Tok} (ha : plainT a) (hx : plainT x) (ka : tokE a = 0) (kx : tokE x = 0) : gapC defaultC a ≤ pairC defaultC a x + gapC defaultC x := by
  rw [gapC_plain, gapC_plain]
  by_cases ht : a.text = x.text
  · rw [pairC_self _ _ _ ht]
    cases pa : hasN a.flags 8 <;> cases px : hasN x.flags 8 <;> simp
    have h1 := word_one ka ha.1 pa
    have h2 := (punct_one kx hx.1 px).2
    rw [ht] at h1
    omega
  · rw [pairC_plain ha hx ht]
    have := distS_pos ht
    (repeat' split) <;> omega
theorem metP_default {l : List Tok} (h : ∀ t ∈ l, plainT t) (hk : ∀ t ∈ l, tokE t = 0) : metP defaultC l := by
  rw [metP_O]
  have hb := fun (a b : Option Tok) => show 0 ≤ costO defaultC a b by
    cases a <;> cases b <;> first | exact Int.le_refl _ | exact (gapC_bd costE_default _).1 | exact (pairC_bd costE_default _ _).1
  have hm : ∀ {t : Tok}, some t ∈ none :: l.map some → plainT t ∧ tokE t = 0 := by
    intro t ht
    simp at ht
    exact ⟨h t ht, hk t ht⟩
  intro a ha b hb' x hx
  cases a with
  | none =>
    cases b with
    | none => have := hb none x; have := hb x none; show (0 : Int) ≤ _; omega
    | some b =>
      cases x with
      | none => show gapC _ _ ≤ 0 + gapC _ _; omega
      | some x =>
        show gapC _ _ ≤ gapC _ _ + pairC _ _ _
        have := gap_pair (hm hb').1 (hm hx).1 (hm hb').2 (hm hx).2
        rw [pairC_swap] at this
        omega
  | some a =>
    cases b with
    | none =>
      cases x with
      | none => show gapC _ _ ≤ gapC _ _ + 0; omega
      | some x => exact gap_pair (hm ha).1 (hm hx).1 (hm ha).2 (hm hx).2
    | some b =>
      obtain ⟨pa, ka⟩ := hm ha
      obtain ⟨pb, kb⟩ := hm hb'
      by_cases hab : a.text = b.text
      · rw [show costO defaultC (some a) (some b) = 0 from pairC_self _ _ _ hab]
        have := hb (some a) x; have := hb x (some b); omega
      rw [show costO defaultC (some a) (some b) = _ from pairC_plain pa pb hab]
      cases x with
      | none =>
        show _ ≤ gapC _ _ + gapC _ _
        rw [gapC_plain, gapC_plain]
        cases qa : hasN a.flags 8 <;> cases qb : hasN b.flags 8 <;> simp <;> try omega
        have h1 := (punct_one ka pa.1 qa).1
        have h2 := (punct_one kb pb.1 qb).1
        have := (distS_ge a.text b.text).2
        omega
      | some x =>
        obtain ⟨px, kx⟩ := hm hx
        show _ ≤ pairC _ _ _ + pairC _ _ _
        have htri := distS_tri a.text b.text x.text
        by_cases hax : a.text = x.text
        · rw [pairC_self _ _ _ hax, pairC_plain px pb (by rw [← hax]; exact hab), hax]; omega
        by_cases hxb : x.text = b.text
        · rw [pairC_self _ _ _ hxb, pairC_plain pa px hax, hxb]; omega
        rw [pairC_plain pa px hax, pairC_plain px pb hxb]
        have := distS_pos hax
        have := distS_pos hxb
        omega
end Go.Proofs.YtiglobijdegjdaaDoor
