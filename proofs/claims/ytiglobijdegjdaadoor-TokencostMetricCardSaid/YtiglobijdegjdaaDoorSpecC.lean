/- Clusters of a string; punctuation; gaps: plain laws. No program in sight. -/
import Derived.Test.YtiglobijdegjdaaDoorSpecB
namespace Go.Proofs.YtiglobijdegjdaaDoor
set_option maxRecDepth 100000

def punctL : List UInt8 := [46, 44, 59, 58, 33, 63, 40, 41, 45]
theorem punct_all : ∀ n : Nat, n < 256 → (decide (0 ≤ Lib.indexByte punctL n.toUInt8) = true ↔ (n = 46 ∨ n = 44 ∨ n = 59 ∨ n = 58 ∨ n = 33 ∨ n = 63 ∨ n = 40 ∨ n = 41 ∨ n = 45)) := by decide

/-! ### Clusters -/
/-- Behind the characters below m + 1: where the open cluster begins; those that are closed. -/
def stp (s : ByteArray) : Nat → Nat × List (Nat × Nat)
  | 0 => (0, [])
  | m + 1 => if m + 1 < s.size ∧ kAt s (m + 1) = 2 ∧ kAt s (stp s m).1 = 1 ∧ (stp s m).1 < m + 1 then stp s m else (m + 1, (stp s m).2 ++ [((stp s m).1, m + 1)])
theorem stp_le (s : ByteArray) : ∀ m, (stp s m).1 ≤ m
  | 0 => Nat.le_refl _
  | m + 1 => by
    unfold stp
    split
    · exact Nat.le_succ_of_le (stp_le s m)
    · exact Nat.le_refl _
theorem stp_prefix (s : ByteArray) (m : Nat) : ∀ n, m ≤ n → (stp s m).2 <+: (stp s n).2 := by
  intro n h
  induction n with
  | zero => rw [show m = 0 by omega]; exact List.prefix_refl _
  | succ n ih =>
    rcases Nat.lt_or_ge m (n + 1) with h1 | h1
    · refine List.IsPrefix.trans (ih (by omega)) ?_
      conv => rhs; unfold stp
      split
      · exact List.prefix_refl _
      · exact List.prefix_append _ _
    · rw [show m = n + 1 by omega]; exact List.prefix_refl _
def clusterV (s : ByteArray) (p : Nat × Nat) : List Value := [.int .i64 (p.1 : Nat), .string (s.extract p.1 p.2)]
def clusterVs (s : ByteArray) : List (List Value) := (stp s s.size).2.map (clusterV s)
/-- Where a cluster is closed: what is yielded then. -/
theorem stp_yield (s : ByteArray) (m : Nat) (hm : m + 1 ≤ s.size) (h : ¬ (m + 1 < s.size ∧ kAt s (m + 1) = 2 ∧ kAt s (stp s m).1 = 1 ∧ (stp s m).1 < m + 1)) :
    (clusterVs s)[(stp s m).2.length]? = some (clusterV s ((stp s m).1, m + 1)) ∧ stp s (m + 1) = (m + 1, (stp s m).2 ++ [((stp s m).1, m + 1)]) := by
  have e : stp s (m + 1) = (m + 1, (stp s m).2 ++ [((stp s m).1, m + 1)]) := by
    conv => lhs; unfold stp
    rw [if_neg h]
  refine ⟨?_, e⟩
  have hp := stp_prefix s (m + 1) s.size hm
  rw [e] at hp
  obtain ⟨t, ht⟩ := hp
  unfold clusterVs
  rw [← ht]
  simp
theorem stp_same (s : ByteArray) (m : Nat) (h : m + 1 < s.size ∧ kAt s (m + 1) = 2 ∧ kAt s (stp s m).1 = 1 ∧ (stp s m).1 < m + 1) : stp s (m + 1) = stp s m := by
  conv => lhs; unfold stp
  rw [if_pos h]
/-- A cluster's first character is right. -/
def firstOk (s : ByteArray) (f : Nat) : Prop := kAt s f ≠ 0 ∧ kAt s f ≠ 2
theorem okAt_iff (s : ByteArray) (j : Nat) : okAt s j = true ↔ kAt s j ≠ 0 ∧ (kAt s j = 2 → canAt s j = true) := by
  unfold okAt
  simp only [Bool.and_eq_true, Bool.or_eq_true, decide_eq_true_eq]
  constructor
  · rintro ⟨h1, h2⟩
    exact ⟨h1, fun h => h2.resolve_left (fun h3 => h3 h)⟩
  · rintro ⟨h1, h2⟩
    refine ⟨h1, ?_⟩
    by_cases h : kAt s j = 2
    · exact .inr (h2 h)
    · exact .inl h
theorem stp_law (s : ByteArray) : ∀ m, m < s.size →
    (((∀ p ∈ (stp s m).2, firstOk s p.1) ∧ firstOk s (stp s m).1) ↔ ∀ j, j ≤ m → okAt s j = true) ∧ (firstOk s (stp s m).1 → (∀ j, j ≤ m → okAt s j = true) → (canAt s (m + 1) = true ↔ kAt s (stp s m).1 = 1)) := by
  intro m
  induction m with
  | zero =>
    intro h
    have hc : canAt s 0 = false := rfl
    constructor
    · constructor
      · rintro ⟨_, h1⟩ j hj
        have : j = 0 := by omega
        subst this
        rw [okAt_iff]
        exact ⟨h1.1, fun h2 => absurd h2 h1.2⟩
      · intro h1
        have h2 := (okAt_iff s 0).1 (h1 0 (Nat.le_refl _))
        refine ⟨fun p hp => (by cases hp), h2.1, fun h3 => ?_⟩
        have := h2.2 h3
        rw [hc] at this; cases this
    · intro h1 h2
      rw [canAt_succ]
      unfold rtAt
      rw [hc]
      simp [stp]
  | succ m ih =>
    intro h
    obtain ⟨i1, i2⟩ := ih (by omega)
    have hle := stp_le s m
    by_cases hs : m + 1 < s.size ∧ kAt s (m + 1) = 2 ∧ kAt s (stp s m).1 = 1 ∧ (stp s m).1 < m + 1
    · have e := stp_same s m hs
      rw [e]
      have key : (∀ j, j ≤ m → okAt s j = true) → okAt s (m + 1) = true ∧ canAt s (m + 1) = true := by
        intro hall
        have hf := (i1.2 hall).2
        have hcan := (i2 hf hall).2 hs.2.2.1
        exact ⟨(okAt_iff s (m + 1)).2 ⟨by omega, fun _ => hcan⟩, hcan⟩
      constructor
      · rw [i1]
        constructor
        · intro hall j hj
          rcases Nat.lt_or_ge j (m + 1) with h3 | h3
          · exact hall j (by omega)
          · rw [show j = m + 1 by omega]; exact (key hall).1
        · intro hall j hj
          exact hall j (by omega)
      · intro hf hall
        have hcan := (key (fun j hj => hall j (by omega))).2
        rw [canAt_succ]
        unfold rtAt
        rw [hcan]
        simp [hs.2.1, hs.2.2.1]
    · have e := (stp_yield s m (by omega) hs).2
      rw [e]
      have step : (∀ j, j ≤ m → okAt s j = true) → (firstOk s (m + 1) ↔ okAt s (m + 1) = true) := by
        intro hall
        have hf := (i1.2 hall).2
        have hcan := i2 hf hall
        rw [okAt_iff]
        constructor
        · rintro ⟨h1, h2⟩; exact ⟨h1, fun h3 => absurd h3 h2⟩
        · rintro ⟨h1, h2⟩
          refine ⟨h1, fun h3 => hs ⟨h, h3, hcan.1 (h2 h3), by omega⟩⟩
      constructor
      · constructor
        · rintro ⟨h1, h2⟩ j hj
          have hall := i1.1 ⟨fun p hp => h1 p (by simp [hp]), h1 ((stp s m).1, m + 1) (by simp)⟩
          rcases Nat.lt_or_ge j (m + 1) with h3 | h3
          · exact hall j (by omega)
          · rw [show j = m + 1 by omega]; exact (step hall).1 h2
        · intro hall
          have hall' : ∀ j, j ≤ m → okAt s j = true := fun j hj => hall j (by omega)
          obtain ⟨h1, h2⟩ := i1.2 hall'
          refine ⟨fun p hp => ?_, (step hall').2 (hall (m + 1) (Nat.le_refl _))⟩
          simp only [List.mem_append, List.mem_singleton] at hp
          rcases hp with hp | rfl
          · exact h1 p hp
          · exact h2
      · intro hf _
        rw [canAt_succ]
        unfold rtAt
        have h2 : kAt s (m + 1) ≠ 2 := hf.2
        simp [h2]
/-- The string is right just where each cluster's first character is. -/
theorem clusters_law (s : ByteArray) : (∀ p ∈ (stp s s.size).2, firstOk s p.1) ↔ okAll s = true := by
  unfold okAll
  rw [decide_eq_true_eq]
  cases hz : s.size with
  | zero =>
    simp [stp]
  | succ m =>
    have h := stp_law s m (by omega)
    have hs : ¬ (m + 1 < s.size ∧ kAt s (m + 1) = 2 ∧ kAt s (stp s m).1 = 1 ∧ (stp s m).1 < m + 1) := fun hh => by omega
    rw [(stp_yield s m (by omega) hs).2]
    constructor
    · intro h1 j hj
      exact h.1.1 ⟨fun p hp => h1 p (by simp [hp]), h1 ((stp s m).1, m + 1) (by simp)⟩ j (by omega)
    · intro h1 p hp
      obtain ⟨g1, g2⟩ := h.1.2 (fun j hj => h1 j (by omega))
      simp only [List.mem_append, List.mem_singleton] at hp
      rcases hp with hp | rfl
      · exact g1 p hp
      · exact g2
theorem stp_bounds (s : ByteArray) : ∀ m p, p ∈ (stp s m).2 → p.1 < p.2 ∧ p.2 ≤ m
  | 0, p, h => by cases h
  | m + 1, p, h => by
    unfold stp at h
    split at h
    · have := stp_bounds s m p h; omega
    · simp only [List.mem_append, List.mem_singleton] at h
      rcases h with h | rfl
      · have := stp_bounds s m p h; omega
      · have := stp_le s m; dsimp only; omega
/-! ### Names -/
theorem letters_all {s : ByteArray} (h : (lettersN s.data.toList : Int) = s.size) : ∀ j, j < s.size → kAt s j = 1 ∨ kAt s j = 3 := by
  intro j hj
  have h1 : (s.data.toList.filter alnum).length = s.data.toList.length := by
    unfold lettersN at h
    simp only [Array.length_toList, ByteArray.size_data]
    omega
  rw [List.length_filter_eq_length_iff] at h1
  have := h1 _ (List.mem_of_getElem? (byteAt_nat s j hj))
  rw [alnum_at] at this
  simpa using this
theorem word_of_letters {s : ByteArray} (h : (lettersN s.data.toList : Int) = s.size) (h1 : 1 ≤ s.size) (h2 : s.size ≤ 64) : isWordB s = true := by
  have ha := letters_all h
  have e1 : okAll s = true := okAll_true fun j hj => by
    rw [okAt_iff]
    have := ha j hj
    exact ⟨by omega, fun h => by omega⟩
  have e2 : ∀ j, j < s.size → kAt s j ≤ 4 := fun j hj => by have := ha j hj; omega
  have e3 := ha 0 (by omega)
  unfold isWordB
  rw [e1, decide_eq_true e2, decide_eq_true (show 1 ≤ s.size ∧ s.size ≤ 64 from ⟨h1, h2⟩)]
  simpa using e3
theorem empty_size {s : ByteArray} : s = ByteArray.mk #[] ↔ s.size = 0 := by
  constructor
  · rintro rfl; rfl
  · intro h
    have : s.data = #[] := Array.eq_empty_of_size_eq_zero h
    exact ByteArray.ext this
theorem name_law (s : ByteArray) : (!decide (s = ByteArray.mk #[]) && decide ((s.size : Int) ≤ 16) && decide ((lettersN s.data.toList : Int) = s.size)) = isNameB s := by
  rw [Bool.eq_iff_iff]
  unfold isNameB
  simp only [Bool.and_eq_true, Bool.not_eq_true', decide_eq_true_eq, decide_eq_false_iff_not]
  constructor
  · rintro ⟨⟨h1, h2⟩, h3⟩
    rw [empty_size] at h1
    exact ⟨by omega, word_of_letters h3 (by omega) (by omega), h3⟩
  · rintro ⟨h1, h2, h3⟩
    have := isWordB_size h2
    rw [empty_size]
    exact ⟨⟨by omega, by omega⟩, h3⟩
def beginsK (k : Int) : Bool := decide (k = 1) || decide (k = 3)
theorem inner_law (k : Int) : (beginsK k || decide (k = 2) || decide (k = 4)) = wordlyK k := by
  unfold beginsK wordlyK
  by_cases h1 : k = 1 <;> by_cases h2 : k = 2 <;> by_cases h3 : k = 3 <;> by_cases h4 : k = 4 <;> simp [h1, h2, h3, h4]
theorem isWord_law (s : ByteArray) (h1 : 1 ≤ s.size ∧ s.size ≤ 64) (h2 : okAll s = true) (h3 : (decide (kAt s 0 = 1) || decide (kAt s 0 = 3)) = true) : (!(s.data.toList.any fun c => decide (kindB c = 5) || decide (kindB c = 6))) = isWordB s := by
  unfold isWordB
  rw [decide_eq_true h1, h2, h3, Bool.true_and, Bool.true_and, Bool.true_and]
  rw [Bool.eq_iff_iff, Bool.not_eq_true', List.any_eq_false, decide_eq_true_eq]
  constructor
  · intro h j hj
    have := h _ (List.mem_of_getElem? (byteAt_nat s j hj))
    have hb := kAt_bd s j
    simp only [Bool.or_eq_true, decide_eq_true_eq, not_or] at this
    have e : kindB (byteAt s (j : Int)) = kAt s j := rfl
    rw [e] at this
    omega
  · intro h c hc
    obtain ⟨j, hj, e⟩ := List.getElem_of_mem hc
    have hj' : j < s.size := by simpa using hj
    have h4 := h j hj'
    have h5 : byteAt s (j : Int) = c := by
      have := byteAt_nat s j hj'
      rw [List.getElem?_eq_getElem hj] at this
      rw [← e]; exact (Option.some.inj this).symm
    have e2 : kAt s j = kindB c := by rw [← h5]; rfl
    rw [e2] at h4
    simp only [Bool.or_eq_true, decide_eq_true_eq, not_or]
    omega
/-! ### Flags -/
theorem flags_all : ∀ n : Nat, n < 32 → decide (andI (n : Int) 2 ≠ 0) = hasN (n : Int) 2 ∧ decide (andI (n : Int) 8 ≠ 0) = hasN (n : Int) 8 ∧ decide (andI (n : Int) 10 = 0) = (!hasN (n : Int) 2 && !hasN (n : Int) 8) := by decide
theorem flags_law (f : Int) (h : 0 ≤ f ∧ f ≤ 31) : decide (andI f 2 ≠ 0) = hasN f 2 ∧ decide (andI f 8 ≠ 0) = hasN f 8 ∧ decide (andI f 10 = 0) = (!hasN f 2 && !hasN f 8) := by
  obtain ⟨n, rfl⟩ := Int.eq_ofNat_of_zero_le h.1
  exact flags_all n (by omega)
/-! ### Gaps -/
theorem atoi_one : ∀ n : Nat, n < 10 → 1 ≤ n → Lib.atoiAll [UInt8.ofNat (48 + n)] = .ok n := by decide
theorem atoi_two : ∀ n : Nat, n < 65 → ¬ n < 10 → Lib.atoiAll [UInt8.ofNat (48 + n / 10), UInt8.ofNat (48 + n % 10)] = .ok n := by decide
theorem atoi_small (n : Nat) (h : n < 65) (h1 : 1 ≤ n) : Lib.atoiAll (Lib.decDigits n) = .ok n := by
  by_cases h2 : n < 10
  · rw [Lib.decDigits_one h2]; exact atoi_one n h2 h1
  · rw [Lib.decDigits_two h2 (by omega)]; exact atoi_two n h h2
theorem decDigits_pos (n : Nat) (h : n < 100) : 1 ≤ (Lib.decDigits n).length := by
  by_cases h1 : n < 10
  · rw [Lib.decDigits_one h1]; simp
  · rw [Lib.decDigits_two h1 h]; simp
theorem gapStr_list (n : Nat) : (gapStr n).data.toList = 91 :: (Lib.decDigits n ++ [93]) := by
  unfold gapStr
  simp
theorem gapStr_size (n : Nat) : (gapStr n).size = (Lib.decDigits n).length + 2 := by
  have := congrArg List.length (gapStr_list n)
  simpa using this
def gapInner (s : ByteArray) : ByteArray := s.extract 1 (s.size - 1)
theorem gapInner_gap (n : Nat) : (gapInner (gapStr n)).data.toList = Lib.decDigits n := by
  unfold gapInner
  rw [ByteArray.data_extract, Array.toList_extract, gapStr_list, gapStr_size]
  simp
/-- What stands around the number of a gap. -/
theorem gap_frame {s : ByteArray} (h : gappedB s = true) : (3 : Int) ≤ s.size ∧ ((byteAt s 0).toNat : Int) = 91 ∧ ((byteAt s ((s.size : Int) - 1)).toNat : Int) = 93 := by
  unfold gappedB at h
  rw [List.any_eq_true] at h
  obtain ⟨n, hn, hh⟩ := h
  simp only [Bool.and_eq_true, decide_eq_true_eq, List.mem_range] at hn hh
  obtain ⟨h1, rfl⟩ := hh
  have hp := decDigits_pos n (by omega)
  have hsz := gapStr_size n
  refine ⟨by omega, ?_, ?_⟩
  · unfold byteAt
    rw [gapStr_list]; rfl
  · unfold byteAt
    rw [gapStr_list, hsz]
    have : ((((Lib.decDigits n).length + 2 : Nat) : Int) - 1).toNat = (Lib.decDigits n).length + 1 := by omega
    rw [this]
    simp
theorem gap_ok {s : ByteArray} {n : Int} (h : Lib.atoiAll (gapInner s).data.toList = .ok n) : (decide (1 ≤ n) && decide (n ≤ 64) && decide (s = gapStr n.toNat)) = gappedB s := by
  cases hg : gappedB s with
  | true =>
    unfold gappedB at hg
    rw [List.any_eq_true] at hg
    obtain ⟨m, hm, hh⟩ := hg
    simp only [Bool.and_eq_true, decide_eq_true_eq, List.mem_range] at hm hh
    obtain ⟨h1, rfl⟩ := hh
    rw [gapInner_gap, atoi_small m hm h1] at h
    injection h with h
    subst h
    simp
    omega
  | false =>
    rw [Bool.and_eq_false_iff]
    by_cases h1 : 1 ≤ n ∧ n ≤ 64
    · right
      rw [decide_eq_false_iff_not]
      intro h2
      rw [gappedB_true (n := n.toNat) (by omega) (by omega) h2] at hg
      cases hg
    · left
      simp only [Bool.and_eq_false_iff, decide_eq_false_iff_not]
      omega
theorem gap_no {s : ByteArray} (h : ∀ n, Lib.atoiAll (gapInner s).data.toList ≠ .ok n) : gappedB s = false := by
  cases hg : gappedB s with
  | false => rfl
  | true =>
    unfold gappedB at hg
    rw [List.any_eq_true] at hg
    obtain ⟨m, hm, hh⟩ := hg
    simp only [Bool.and_eq_true, decide_eq_true_eq, List.mem_range] at hm hh
    obtain ⟨h1, rfl⟩ := hh
    rw [gapInner_gap, atoi_small m hm h1] at h
    exact absurd rfl (h _)
theorem byteAt_extract (s : ByteArray) (f t : Nat) (h : f < t) (h2 : t ≤ s.size) : byteAt (s.extract f t) 0 = byteAt s (f : Int) := by
  unfold byteAt
  rw [ByteArray.data_extract, Array.toList_extract]
  simp only [Int.toNat_zero, Int.toNat_natCast, List.getD_eq_getElem?_getD]
  congr 1
  rw [List.extract_eq_take_drop, List.getElem?_take_of_lt (by omega), List.getElem?_drop, Nat.add_zero]
end Go.Proofs.YtiglobijdegjdaaDoor
