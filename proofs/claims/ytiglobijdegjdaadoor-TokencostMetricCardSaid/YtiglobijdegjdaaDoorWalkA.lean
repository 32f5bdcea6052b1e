/- Walks: characters, words, names. -/
import Derived.Test.YtiglobijdegjdaaDoorEngL
import Derived.Test.YtiglobijdegjdaaDoorTypes
import Derived.Test.YtiglobijdegjdaaDoorSpecA
namespace Go.Proofs.YtiglobijdegjdaaDoor
open Go.RowKit Go.Shelf Go.Proofs
set_option maxRecDepth 100000
set_option maxHeartbeats 1000000

theorem kindRef_spec (c : Int) (w : World) : Spec Tryd.prog 46 [.int .u8 c] w (fun v A => v = .int .i64 (kindI c) ∧ A = []) := by
  refine spec_of sg Tryd.func46 rfl rfl rfl ?_
  repeat' (first | refine d1 ?_ | refine dd ?_ | (show ∀ _ : Nat, T _ _ _ _ _; intro _) | (show T _ (.code (.cond _ _ _) :: _) _ _ _; refine T_if rfl (fun h => ?_) (fun h => ?_)) | (show T _ (.code .ret :: _) _ _ _; refine T_retV [] rfl (Hle.refl _) ?_))
  all_goals refine ⟨congrArg (Value.int .i64) ?_, rfl⟩
  all_goals simp only [Bool.or_eq_true, Bool.and_eq_true, decide_eq_true_eq, Bool.or_eq_false_iff, Bool.and_eq_false_iff, decide_eq_false_iff_not] at *
  all_goals (unfold kindI; (repeat' split) <;> omega)

theorem lettersRef_spec (s : ByteArray) (w : World) (hs : s.size ≤ 9223372036854775807) : Spec Tryd.prog 80 [.string s] w (fun v A => v = .int .i64 (lettersN s.data.toList) ∧ A = []) := by
  refine spec_of sg Tryd.func80 rfl rfl rfl ?_
  repeat' (first | refine d1 ?_ | refine dd ?_ | (show ∀ _ : Nat, T _ _ _ _ _; intro _))
  refine T_loop (fun k : Nat => [(0, .string s), (3, .int .i64 (lettersN (s.data.toList.take k))), (4, .int .i64 k)]) (fun _ => []) (fun k => k ≤ s.size) (fun k => s.size - k) 0 (by omega) ⟨rfl, rfl, rfl, trivial⟩ (Hle.refl _) ?_
  intro k hk
  repeat' (first | refine d1 ?_ | refine dd ?_ | (show ∀ _ : Nat, T _ _ _ _ _; intro _))
  refine T_if rfl (fun h => ?_) (fun h => ?_)
  · simp only [decide_eq_true_eq] at h
    have hl := lettersN_le (s.data.toList.take k)
    have hl2 : (s.data.toList.take k).length ≤ k := by rw [List.length_take]; omega
    have hst := lettersN_take s k (by omega)
    repeat' (first | refine d1 ?_ | refine dd ?_ | (show T _ (.ops _ (_ :: _) :: _) _ _ _; first | refine T_call rfl rfl rfl rfl rfl (fun w hw => kindRef_spec _ w) ?_ | refine T_callC rfl rfl rfl rfl rfl rfl rfl (fun hg w hw => kindRef_spec _ w) ?_) | (show T _ (.run _ _ (_ :: _) _ _ :: _) _ _ _; first | refine rc rfl rfl rfl rfl rfl rfl rfl (fun w hw => kindRef_spec _ w) ?_ | refine rcG rfl rfl rfl rfl rfl rfl rfl rfl rfl (fun hg w hw => kindRef_spec _ w) ?_) | (show ∀ _ : Nat, T _ _ _ _ _; intro _) | (show T _ (.code (.cond _ _ _) :: _) _ _ _; refine T_if rfl (fun h => ?_) (fun h => ?_)) | (show T _ _ _ _ _; refine T_back (k + 1) (by omega) (by omega) ⟨rfl, ?_, rfl, trivial⟩ (Hle.refl _)))
    all_goals (refine congrArg (fun z : Int => some (Value.int .i64 z)) ?_; simp only [Bool.or_eq_true, Bool.or_eq_false_iff, decide_eq_true_eq, decide_eq_false_iff_not] at h; rw [hst]; unfold kAt; split <;> omega)
  · simp only [decide_eq_false_iff_not] at h
    have hk2 : k = s.size := by omega
    subst hk2
    repeat' (first | refine d1 ?_ | refine dd ?_ | (show ∀ _ : Nat, T _ _ _ _ _; intro _) | (show T _ (.code .ret :: _) _ _ _; refine T_retV [] rfl (Hle.refl _) ⟨?_, rfl⟩))
    rw [List.take_of_length_le (by simp)]
    rfl

theorem rightRef_spec (s : ByteArray) (w : World) (hs : s.size ≤ 65536) : Spec Tryd.prog 79 [.string s] w
    (fun v A => ∃ x : Nat × Nat, True ∧ v = .slice (some ⟨x.1, 0, none⟩) s.size x.2 ∧ A = [row 4 1 (some ⟨x.1, 0, none⟩) x.2 s.size (rts s s.size)]) := by
  refine spec_of sg Tryd.func79 rfl rfl rfl ?_
  repeat' (first | refine d1 ?_ | refine dd ?_ | (show ∀ _ : Nat, T _ _ _ _ _; intro _))
  refine T_blk_rowh 1 0 rfl (by omega) ?_
  refine T_loop (fun x : Nat × Nat × Nat => [(0, .string s), (3, .slice (some ⟨x.2.1, 0, none⟩) x.1 x.2.2), (4, .int .i64 x.1)]) (fun x => [row 4 1 (some ⟨x.2.1, 0, none⟩) x.2.2 x.1 (rts s x.1)]) (fun x => x.1 ≤ s.size) (fun x => s.size - x.1) (0, _, 0) (Nat.zero_le _) ⟨rfl, rfl, rfl, trivial⟩ (Hle.refl _) ?_
  rintro ⟨k, g, cap⟩ hk
  dsimp only at hk ⊢
  repeat' (first | refine d1 ?_ | refine dd ?_ | (show ∀ _ : Nat, T _ _ _ _ _; intro _))
  refine T_if rfl (fun h => ?_) (fun h => ?_)
  · simp only [decide_eq_true_eq] at h
    repeat' (first | refine d1 ?_ | refine dd ?_ | (show T _ (.ops _ (_ :: _) :: _) _ _ _; first | refine T_call rfl rfl rfl rfl rfl (fun w hw => kindRef_spec _ w) ?_ | refine T_callC rfl rfl rfl rfl rfl rfl rfl (fun hg w hw => kindRef_spec _ w) ?_) | (show T _ (.run _ _ (_ :: _) _ _ :: _) _ _ _; first | refine rc rfl rfl rfl rfl rfl rfl rfl (fun w hw => kindRef_spec _ w) ?_ | refine rcG rfl rfl rfl rfl rfl rfl rfl rfl rfl (fun hg w hw => kindRef_spec _ w) ?_) | (show ∀ _ : Nat, T _ _ _ _ _; intro _))
    refine T_loadC (v := .bool (rtAt s (k - 1))) rfl rfl rfl rfl rfl rfl rfl (fun hg => ?_) ?_
    · (simp only [List.cons_append, List.nil_append, GP, dstL, lookE, Nat.beq, cond, List.getElem?_cons_zero, List.getElem?_cons_succ, Option.bind_some, and_true, Bool.and_eq_true, Bool.or_eq_true, Bool.and_eq_false_iff, Bool.or_eq_false_iff, Bool.not_eq_true', Bool.not_eq_false', decide_eq_true_eq, decide_eq_false_iff_not] at hg)
      refine rdRow (A := some ⟨g, 0, none⟩) (by omega) (get1 ?_)
      rw [show 0 + ((k : Int) - 1).toNat * 1 = k - 1 by omega]
      exact rts_get (by omega)
    repeat' (first | refine d1 ?_ | refine dd ?_ | (show ∀ _ : Nat, T _ _ _ _ _; intro _))
    refine T_op (OpT.append rfl rfl rfl rfl rfl rfl rfl rfl rfl rfl (fun w hw => Src.own hw rfl) rfl (by dsimp only; omega) (by omega) (fun A' cap' hA => ?_))
    obtain ⟨g', rfl⟩ := hA (by omega)
    have hv : (decide (kindI (byteAt s (k : Int)).toNat = 2) && decide ((0 : Int) < k) && (decide (kindI (byteAt s ((k : Int) - 1)).toNat = 1) || rtAt s (k - 1))) = rtAt s k := by
      rw [byteAt_pred]
      cases k with
      | zero => simp [rtAt, canAt]
      | succ k => simp [rtAt, canAt, kAt]; rfl
    rw [hv, show rts s k ++ flatP [(0, .bool (rtAt s k))] = rts s (k + 1) from (rts_succ s k).symm]
    repeat' (first | refine d1 ?_ | refine dd ?_ | (show ∀ _ : Nat, T _ _ _ _ _; intro _))
    exact T_back (k + 1, g', cap') (Nat.succ_le_of_lt (by omega)) (by dsimp only; omega) ⟨rfl, rfl, rfl, trivial⟩ (Hle.tail _ _)
  · simp only [decide_eq_false_iff_not] at h
    have hk2 : k = s.size := by omega
    subst hk2
    repeat' (first | refine d1 ?_ | refine dd ?_ | (show ∀ _ : Nat, T _ _ _ _ _; intro _) | (show T _ (.code .ret :: _) _ _ _; refine T_retV _ rfl (Hle.refl _) ⟨(g, cap), trivial, rfl, rfl⟩))

theorem checkRef_spec (s : ByteArray) (w : World) : Spec Tryd.prog 65 [.string s] w (fun v A => v = .int .i64 (checkS s) ∧ A = []) := by
  refine spec_of sg Tryd.func65 rfl rfl rfl ?_
  repeat' (first | refine d1 ?_ | refine dd ?_ | (show ∀ _ : Nat, T _ _ _ _ _; intro _))
  refine T_if rfl (fun h => ?_) (fun h => ?_)
  · simp only [decide_eq_true_eq] at h
    repeat' (first | refine d1 ?_ | refine dd ?_ | (show ∀ _ : Nat, T _ _ _ _ _; intro _) | (show T _ (.code .ret :: _) _ _ _; refine T_retV [] rfl (Hle.refl _) ⟨?_, rfl⟩))
    unfold checkS; rw [if_pos h]; rfl
  simp only [decide_eq_false_iff_not] at h
  repeat' (first | refine d1 ?_ | refine dd ?_ | (show T _ (.ops _ (_ :: _) :: _) _ _ _; refine T_callE rfl rfl rfl rfl rfl (fun w _ => rightRef_spec s w (by omega)) (fun x _ => ?_)) | (show ∀ _ : Nat, T _ _ _ _ _; intro _))
  refine T_loop (fun k : Nat => [(0, .string s), (3, .slice (some ⟨x.1, 0, none⟩) s.size x.2), (4, .int .i64 k)]) (fun _ => [row 4 1 (some ⟨x.1, 0, none⟩) x.2 s.size (rts s s.size)])
    (fun k => k ≤ s.size ∧ ∀ j, j < k → okAt s j = true) (fun k => s.size - k) 0 ⟨by omega, fun j h => by omega⟩ ⟨rfl, rfl, rfl, trivial⟩ (Hle.refl _) ?_
  rintro k ⟨hk, hok⟩
  repeat' (first | refine d1 ?_ | refine dd ?_ | (show ∀ _ : Nat, T _ _ _ _ _; intro _))
  refine T_if rfl (fun h1 => ?_) (fun h1 => ?_)
  · simp only [decide_eq_true_eq] at h1
    repeat' (first | refine d1 ?_ | refine dd ?_ | (show T _ (.ops _ (_ :: _) :: _) _ _ _; first | refine T_call rfl rfl rfl rfl rfl (fun w hw => kindRef_spec _ w) ?_ | refine T_callC rfl rfl rfl rfl rfl rfl rfl (fun hg w hw => kindRef_spec _ w) ?_) | (show T _ (.run _ _ (_ :: _) _ _ :: _) _ _ _; first | refine rc rfl rfl rfl rfl rfl rfl rfl (fun w hw => kindRef_spec _ w) ?_ | refine rcG rfl rfl rfl rfl rfl rfl rfl rfl rfl (fun hg w hw => kindRef_spec _ w) ?_) | (show ∀ _ : Nat, T _ _ _ _ _; intro _))
    refine T_loadC (v := .bool (rtAt s k)) rfl rfl rfl rfl rfl rfl rfl (fun hg => rdRow (A := some ⟨x.1, 0, none⟩) (by omega) (get1 ?_)) ?_
    · rw [show 0 + (k : Int).toNat * 1 = k by omega]
      exact rts_get (by omega)
    have hst : (decide (kindI (byteAt s (k : Int)).toNat = 0) || (decide (kindI (byteAt s (k : Int)).toNat = 2) && !rtAt s k)) = !okAt s k := by
      unfold okAt rtAt kAt
      generalize kindI (byteAt s (k : Int)).toNat = q
      by_cases h0 : q = 0 <;> by_cases h2 : q = 2 <;> cases canAt s k <;> simp [h0, h2] <;> omega
    repeat' (first | refine d1 ?_ | refine dd ?_ | (show ∀ _ : Nat, T _ _ _ _ _; intro _))
    refine T_if rfl (fun h2 => ?_) (fun h2 => ?_)
    · rw [hst, Bool.not_eq_true'] at h2
      repeat' (first | refine d1 ?_ | refine dd ?_ | (show ∀ _ : Nat, T _ _ _ _ _; intro _) | (show T _ (.code .ret :: _) _ _ _; refine T_retV [] rfl (Hle.none _) ⟨?_, rfl⟩))
      unfold checkS; rw [if_neg h, okAll_false (by omega) h2]; rfl
    · rw [hst, Bool.not_eq_false'] at h2
      repeat' (first | refine d1 ?_ | refine dd ?_ | (show ∀ _ : Nat, T _ _ _ _ _; intro _))
      refine T_back (k + 1) ⟨by omega, fun j hj => ?_⟩ (by omega) ⟨rfl, rfl, rfl, trivial⟩ (Hle.refl _)
      rcases Nat.lt_or_ge j k with h3 | h3
      · exact hok j h3
      · rw [show j = k by omega]; exact h2
  · simp only [decide_eq_false_iff_not] at h1
    repeat' (first | refine d1 ?_ | refine dd ?_ | (show ∀ _ : Nat, T _ _ _ _ _; intro _) | (show T _ (.code .ret :: _) _ _ _; refine T_retV [] rfl (Hle.none _) ⟨?_, rfl⟩))
    unfold checkS; rw [if_neg h, okAll_true (fun j hj => hok j (by omega))]; rfl

theorem isWordRef_spec (s : ByteArray) (w : World) : Spec Tryd.prog 47 [.string s] w (fun v A => v = .bool (isWordB s) ∧ A = []) := by
  refine spec_of sg Tryd.func47 rfl rfl rfl ?_
  repeat' (first | refine d1 ?_ | refine dd ?_ | (show T _ (.ops _ (_ :: _) :: _) _ _ _; first | refine T_call rfl rfl rfl rfl rfl (fun w hw => checkRef_spec s w) ?_ | refine T_callC rfl rfl rfl rfl rfl rfl rfl (fun hg w hw => checkRef_spec s w) ?_) | (show T _ (.run _ _ (_ :: _) _ _ :: _) _ _ _; first | refine rc rfl rfl rfl rfl rfl rfl rfl (fun w hw => checkRef_spec s w) ?_ | refine rcG rfl rfl rfl rfl rfl rfl rfl rfl rfl (fun hg w hw => checkRef_spec s w) ?_) | (show ∀ _ : Nat, T _ _ _ _ _; intro _))
  refine T_if rfl (fun h => ?_) (fun h => ?_)
  · repeat' (first | refine d1 ?_ | refine dd ?_ | (show ∀ _ : Nat, T _ _ _ _ _; intro _) | (show T _ (.code .ret :: _) _ _ _; refine T_retV [] rfl (Hle.refl _) ⟨congrArg Value.bool ?_, rfl⟩))
    simp only [Bool.or_eq_true, decide_eq_true_eq, Bool.not_eq_true', decide_eq_false_iff_not] at h
    unfold isWordB
    by_cases h1 : 1 ≤ s.size ∧ s.size ≤ 64
    · have h2 : okAll s = false := by
        cases h3 : okAll s with
        | false => rfl
        | true => unfold checkS at h; rw [if_neg (by omega), h3] at h; simp at h; omega
      simp [h2]
    · simp [h1]
  simp only [Bool.or_eq_false_iff, decide_eq_false_iff_not, Bool.not_eq_false', decide_eq_true_eq] at h
  have h1 : 1 ≤ s.size ∧ s.size ≤ 64 := by omega
  have h2 : okAll s = true := by
    cases h3 : okAll s with
    | true => rfl
    | false => have h4 := h.2; unfold checkS at h4; rw [if_neg (by omega), h3] at h4; simp at h4
  repeat' (first | refine d1 ?_ | refine dd ?_ | (show T _ (.ops _ (_ :: _) :: _) _ _ _; first | refine T_call rfl rfl rfl rfl rfl (fun w hw => kindRef_spec _ w) ?_ | refine T_callC rfl rfl rfl rfl rfl rfl rfl (fun hg w hw => kindRef_spec _ w) ?_) | (show T _ (.run _ _ (_ :: _) _ _ :: _) _ _ _; first | refine rc rfl rfl rfl rfl rfl rfl rfl (fun w hw => kindRef_spec _ w) ?_ | refine rcG rfl rfl rfl rfl rfl rfl rfl rfl rfl (fun hg w hw => kindRef_spec _ w) ?_) | (show ∀ _ : Nat, T _ _ _ _ _; intro _))
  refine T_if rfl (fun h3 => ?_) (fun h3 => ?_)
  · repeat' (first | refine d1 ?_ | refine dd ?_ | (show ∀ _ : Nat, T _ _ _ _ _; intro _) | (show T _ (.code .ret :: _) _ _ _; refine T_retV [] rfl (Hle.refl _) ⟨congrArg Value.bool ?_, rfl⟩))
    have h4 : (decide (kAt s 0 = 1) || decide (kAt s 0 = 3)) = false := by
      simp only [Bool.and_eq_true, Bool.not_eq_true'] at h3
      rw [Bool.or_eq_false_iff]; exact h3
    unfold isWordB
    simp [h4]
  have h4 : (decide (kAt s 0 = 1) || decide (kAt s 0 = 3)) = true := by
    simp only [Bool.and_eq_false_iff, Bool.not_eq_false'] at h3
    rw [Bool.or_eq_true]; exact h3
  repeat' (first | refine d1 ?_ | refine dd ?_ | (show ∀ _ : Nat, T _ _ _ _ _; intro _))
  refine T_loop (fun k : Nat => [(0, .string s), (4, .int .i64 k)]) (fun _ => []) (fun k => k ≤ s.size ∧ ∀ j, j < k → kAt s j ≤ 4) (fun k => s.size - k) 0 ⟨by omega, fun j h => by omega⟩ ⟨rfl, rfl, trivial⟩ (Hle.refl _) ?_
  rintro k ⟨hk, hok⟩
  repeat' (first | refine d1 ?_ | refine dd ?_ | (show ∀ _ : Nat, T _ _ _ _ _; intro _))
  refine T_if rfl (fun h5 => ?_) (fun h5 => ?_)
  · simp only [decide_eq_true_eq] at h5
    repeat' (first | refine d1 ?_ | refine dd ?_ | (show T _ (.ops _ (_ :: _) :: _) _ _ _; first | refine T_call rfl rfl rfl rfl rfl (fun w hw => kindRef_spec _ w) ?_ | refine T_callC rfl rfl rfl rfl rfl rfl rfl (fun hg w hw => kindRef_spec _ w) ?_) | (show T _ (.run _ _ (_ :: _) _ _ :: _) _ _ _; first | refine rc rfl rfl rfl rfl rfl rfl rfl (fun w hw => kindRef_spec _ w) ?_ | refine rcG rfl rfl rfl rfl rfl rfl rfl rfl rfl (fun hg w hw => kindRef_spec _ w) ?_) | (show ∀ _ : Nat, T _ _ _ _ _; intro _))
    refine T_if rfl (fun h6 => ?_) (fun h6 => ?_)
    · simp only [decide_eq_true_eq] at h6
      repeat' (first | refine d1 ?_ | refine dd ?_ | (show ∀ _ : Nat, T _ _ _ _ _; intro _) | (show T _ (.code .ret :: _) _ _ _; refine T_retV [] rfl (Hle.refl _) ⟨congrArg Value.bool ?_, rfl⟩))
      have h7 : ¬ ∀ j, j < s.size → kAt s j ≤ 4 := fun hh => by have := hh k (by omega); unfold kAt at this; omega
      unfold isWordB
      simp [h7]
    · simp only [decide_eq_false_iff_not] at h6
      repeat' (first | refine d1 ?_ | refine dd ?_ | (show ∀ _ : Nat, T _ _ _ _ _; intro _))
      refine T_back (k + 1) ⟨by omega, fun j hj => ?_⟩ (by omega) ⟨rfl, rfl, trivial⟩ (Hle.refl _)
      rcases Nat.lt_or_ge j k with h7 | h7
      · exact hok j h7
      · rw [show j = k by omega]; unfold kAt; omega
  · simp only [decide_eq_false_iff_not] at h5
    repeat' (first | refine d1 ?_ | refine dd ?_ | (show ∀ _ : Nat, T _ _ _ _ _; intro _) | (show T _ (.code .ret :: _) _ _ _; refine T_retV [] rfl (Hle.refl _) ⟨congrArg Value.bool ?_, rfl⟩))
    unfold isWordB
    have h7 : ∀ j, j < s.size → kAt s j ≤ 4 := fun j hj => hok j (by omega)
    rw [decide_eq_true h1, h2, h4, decide_eq_true h7]; rfl

theorem isNameRef_spec (s : ByteArray) (w : World) : Spec Tryd.prog 66 [.string s] w (fun v A => v = .bool (isNameB s) ∧ A = []) := by
  refine spec_of sg Tryd.func66 rfl rfl rfl ?_
  repeat' (first | refine d1 ?_ | refine dd ?_ | (show T _ (.ops _ (_ :: _) :: _) _ _ _; first | refine T_call rfl rfl rfl rfl rfl (fun w hw => isWordRef_spec s w) ?_ | refine T_callC rfl rfl rfl rfl rfl rfl rfl (fun hg w hw => isWordRef_spec s w) ?_ | refine T_call rfl rfl rfl rfl rfl (fun w hw => lettersRef_spec s w (by ((simp only [List.cons_append, List.nil_append, GP, dstL, lookE, Nat.beq, cond, List.getElem?_cons_zero, List.getElem?_cons_succ, Option.bind_some, and_true, Bool.and_eq_true, Bool.or_eq_true, Bool.and_eq_false_iff, Bool.or_eq_false_iff, Bool.not_eq_true', Bool.not_eq_false', decide_eq_true_eq, decide_eq_false_iff_not] at hg); omega))) ?_ | refine T_callC rfl rfl rfl rfl rfl rfl rfl (fun hg w hw => lettersRef_spec s w (by ((simp only [List.cons_append, List.nil_append, GP, dstL, lookE, Nat.beq, cond, List.getElem?_cons_zero, List.getElem?_cons_succ, Option.bind_some, and_true, Bool.and_eq_true, Bool.or_eq_true, Bool.and_eq_false_iff, Bool.or_eq_false_iff, Bool.not_eq_true', Bool.not_eq_false', decide_eq_true_eq, decide_eq_false_iff_not] at hg); omega))) ?_) | (show T _ (.run _ _ (_ :: _) _ _ :: _) _ _ _; first | refine rc rfl rfl rfl rfl rfl rfl rfl (fun w hw => isWordRef_spec s w) ?_ | refine rcG rfl rfl rfl rfl rfl rfl rfl rfl rfl (fun hg w hw => isWordRef_spec s w) ?_ | refine rc rfl rfl rfl rfl rfl rfl rfl (fun w hw => lettersRef_spec s w (by ((simp only [List.cons_append, List.nil_append, GP, dstL, lookE, Nat.beq, cond, List.getElem?_cons_zero, List.getElem?_cons_succ, Option.bind_some, and_true, Bool.and_eq_true, Bool.or_eq_true, Bool.and_eq_false_iff, Bool.or_eq_false_iff, Bool.not_eq_true', Bool.not_eq_false', decide_eq_true_eq, decide_eq_false_iff_not] at hg); omega))) ?_ | refine rcG rfl rfl rfl rfl rfl rfl rfl rfl rfl (fun hg w hw => lettersRef_spec s w (by ((simp only [List.cons_append, List.nil_append, GP, dstL, lookE, Nat.beq, cond, List.getElem?_cons_zero, List.getElem?_cons_succ, Option.bind_some, and_true, Bool.and_eq_true, Bool.or_eq_true, Bool.and_eq_false_iff, Bool.or_eq_false_iff, Bool.not_eq_true', Bool.not_eq_false', decide_eq_true_eq, decide_eq_false_iff_not] at hg); omega))) ?_) | (show ∀ _ : Nat, T _ _ _ _ _; intro _) | (show T _ (.code .ret :: _) _ _ _; refine T_retV [] rfl (Hle.refl _) ⟨congrArg Value.bool ?_, rfl⟩))
  unfold isNameB
  rw [Bool.and_assoc]
  congr 1
  simp only [decide_eq_decide]; omega

theorem wordlyRef_spec (c : Int) (w : World) : Spec Tryd.prog 48 [.int .u8 c] w (fun v A => v = .bool (wordlyK (kindI c)) ∧ A = []) := by
  refine spec_of sg Tryd.func48 rfl rfl rfl ?_
  repeat' (first | refine d1 ?_ | refine dd ?_ | (show T _ (.ops _ (_ :: _) :: _) _ _ _; first | refine T_call rfl rfl rfl rfl rfl (fun w hw => kindRef_spec c w) ?_ | refine T_callC rfl rfl rfl rfl rfl rfl rfl (fun hg w hw => kindRef_spec c w) ?_) | (show T _ (.run _ _ (_ :: _) _ _ :: _) _ _ _; first | refine rc rfl rfl rfl rfl rfl rfl rfl (fun w hw => kindRef_spec c w) ?_ | refine rcG rfl rfl rfl rfl rfl rfl rfl rfl rfl (fun hg w hw => kindRef_spec c w) ?_) | (show ∀ _ : Nat, T _ _ _ _ _; intro _) | (show T _ (.code .ret :: _) _ _ _; refine T_retV [] rfl (Hle.refl _) ⟨rfl, rfl⟩))

theorem namedRef_spec (s : ByteArray) (w : World) : Spec Tryd.prog 49 [.string s] w (fun v A => v = .bool (namedB s) ∧ A = []) := by
  refine spec_of sg Tryd.func49 rfl rfl rfl ?_
  repeat' (first | refine d1 ?_ | refine dd ?_ | (show T _ (.ops _ (_ :: _) :: _) _ _ _; first | refine T_call rfl rfl rfl rfl rfl (fun w hw => isNameRef_spec s w) ?_ | refine T_callC rfl rfl rfl rfl rfl rfl rfl (fun hg w hw => isNameRef_spec s w) ?_) | (show T _ (.run _ _ (_ :: _) _ _ :: _) _ _ _; first | refine rc rfl rfl rfl rfl rfl rfl rfl (fun w hw => isNameRef_spec s w) ?_ | refine rcG rfl rfl rfl rfl rfl rfl rfl rfl rfl (fun hg w hw => isNameRef_spec s w) ?_) | (show ∀ _ : Nat, T _ _ _ _ _; intro _) | (show T _ (.code .ret :: _) _ _ _; refine T_retV [] rfl (Hle.refl _) ⟨rfl, rfl⟩))
end Go.Proofs.YtiglobijdegjdaaDoor
