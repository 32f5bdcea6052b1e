/- Walks: costs, by the program and by the reference. -/
import Derived.Test.YtiglobijdegjdaaDoorWalkH
import Derived.Test.YtiglobijdegjdaaDoorSpecH
namespace Go.Proofs.YtiglobijdegjdaaDoor
open Go.RowKit Go.Shelf Go.Proofs
set_option maxRecDepth 100000
set_option maxHeartbeats 1000000

theorem badPrg_spec (n : Int) (w : World) : Spec Tryd.prog 36 [.int .i64 n] w (fun v A => v = .bool (badN n) ∧ A = []) := by
  refine spec_of sg Tryd.func36 rfl rfl rfl ?_
  repeat' (first | refine d1 ?_ | refine dd ?_ | (show ∀ _ : Nat, T _ _ _ _ _; intro _) | (show T _ (.code .ret :: _) _ _ _; refine T_retV [] rfl (Hle.none _) ⟨rfl, rfl⟩))
theorem costPrg_spec (c : Costs) (w : World) : Spec Tryd.prog 16 [c.val] w (fun v A => v = .int .i64 (costE c) ∧ A = []) := by
  refine spec_of sg Tryd.func16 rfl rfl rfl ?_
  repeat' (first | (show T _ (.ops _ (⟨_, .box _ _, _, _, _, _⟩ :: _) :: _) _ _ _; refine T_op (OpT.box (cs := c.cells) rfl rfl rfl rfl rfl rfl rfl (fun _ => ?_))) | refine d1 ?_ | refine dd ?_ | (show T _ (.ops _ (_ :: _) :: _) _ _ _; first | refine T_call rfl rfl rfl rfl rfl (fun w hw => containsFuncI_spec _ _ _ c.ints _ [] [] badN w (Src.own hw rfl) rfl (by omega) (fun x _ w' _ => badPrg_spec x w')) ?_ | refine T_callC rfl rfl rfl rfl rfl rfl rfl (fun hg w hw => containsFuncI_spec _ _ _ c.ints _ [] [] badN w (Src.own hw rfl) rfl (by omega) (fun x _ w' _ => badPrg_spec x w')) ?_) | (show T _ (.run _ _ (_ :: _) _ _ :: _) _ _ _; first | refine rc rfl rfl rfl rfl rfl rfl rfl (fun w hw => containsFuncI_spec _ _ _ c.ints _ [] [] badN w (Src.own hw rfl) rfl (by omega) (fun x _ w' _ => badPrg_spec x w')) ?_ | refine rcG rfl rfl rfl rfl rfl rfl rfl rfl rfl (fun hg w hw => containsFuncI_spec _ _ _ c.ints _ [] [] badN w (Src.own hw rfl) rfl (by omega) (fun x _ w' _ => badPrg_spec x w')) ?_) | (show ∀ _ : Nat, T _ _ _ _ _; intro _))
  refine T_if rfl (fun h => ?_) (fun h => ?_)
  · repeat' (first | refine d1 ?_ | refine dd ?_ | (show ∀ _ : Nat, T _ _ _ _ _; intro _) | (show T _ (.code .ret :: _) _ _ _; refine T_retV [] rfl (Hle.none _) ⟨congrArg (Value.int .i64) ?_, rfl⟩))
    unfold costE; rw [if_pos h]
  · repeat' (first | refine d1 ?_ | refine dd ?_ | (show ∀ _ : Nat, T _ _ _ _ _; intro _))
    refine T_if rfl (fun h2 => ?_) (fun h2 => ?_)
    · simp only [decide_eq_true_eq] at h2
      repeat' (first | refine d1 ?_ | refine dd ?_ | (show ∀ _ : Nat, T _ _ _ _ _; intro _) | (show T _ (.code .ret :: _) _ _ _; refine T_retV [] rfl (Hle.none _) ⟨congrArg (Value.int .i64) ?_, rfl⟩))
      unfold costE; rw [if_neg (by rw [h]; simp), if_pos h2]
    · simp only [decide_eq_false_iff_not] at h2
      repeat' (first | refine d1 ?_ | refine dd ?_ | (show ∀ _ : Nat, T _ _ _ _ _; intro _) | (show T _ (.code .ret :: _) _ _ _; refine T_retV [] rfl (Hle.none _) ⟨congrArg (Value.int .i64) ?_, rfl⟩))
      unfold costE; rw [if_neg (by rw [h]; simp), if_neg h2]
theorem costRef_spec (c : Costs) (w : World) : Spec Tryd.prog 17 [c.val] w (fun v A => v = .int .i64 (costE c) ∧ A = []) := by
  refine spec_of sg Tryd.func17 rfl rfl rfl ?_
  repeat' (first | (show T _ (.ops _ (⟨_, .box _ _, _, _, _, _⟩ :: _) :: _) _ _ _; refine T_op (OpT.box (cs := c.cells) rfl rfl rfl rfl rfl rfl rfl (fun _ => ?_))) | refine d1 ?_ | refine dd ?_ | (show T _ (.ops _ (_ :: _) :: _) _ _ _; refine T_op (OpT.litW (cs := c.cells) rfl rfl rfl rfl rfl rfl rfl rfl rfl rfl rfl (fun _ => ?_))) | (show ∀ _ : Nat, T _ _ _ _ _; intro _))
  rename_i p b
  refine T_loop (fun k : Nat => [(1, .pointer (some ⟨p, 0, none⟩)), (3, .slice (some ⟨b, 0, none⟩) 4 4), (4, .int .i64 k)]) (fun _ => [blk b c.cells 3, blk p c.cells 23]) (fun k => k ≤ 4 ∧ ∀ j x, j < k → c.ints[j]? = some x → badN x = false) (fun k => 4 - k) 0 ⟨by omega, fun j x h => by omega⟩ ⟨rfl, rfl, rfl, trivial⟩ (Hle.refl _) ?_
  rintro k ⟨hk, hok⟩
  repeat' (first | refine d1 ?_ | refine dd ?_ | (show ∀ _ : Nat, T _ _ _ _ _; intro _))
  refine T_if rfl (fun h => ?_) (fun h => ?_)
  · simp only [decide_eq_true_eq] at h
    obtain ⟨x, hx⟩ : ∃ x, c.ints[k]? = some x := ⟨_, List.getElem?_eq_getElem (by show k < 4; omega)⟩
    have hx' : c.cells[k]? = some (.int .i64 x) := by
      have : c.cells = c.ints.map (Value.int .i64) := rfl
      rw [this, List.getElem?_map, hx]; rfl
    repeat' (first | refine d1 ?_ | refine dd ?_ | (show T _ (.ops _ (_ :: _) :: _) _ _ _; first | refine T_load (v := .int .i64 x) rfl rfl rfl rfl rfl (rdOwn1 (b := b) (by rw [show 0 + (k : Int).toNat * 1 = k by omega]; exact hx')) ?_ | refine T_loadC (v := .int .i64 x) rfl rfl rfl rfl rfl rfl rfl (fun _ => rdOwn1 (b := b) (by rw [show 0 + (k : Int).toNat * 1 = k by omega]; exact hx')) ?_) | (show ∀ _ : Nat, T _ _ _ _ _; intro _))
    refine T_if rfl (fun h2 => ?_) (fun h2 => ?_)
    · repeat' (first | refine d1 ?_ | refine dd ?_ | (show ∀ _ : Nat, T _ _ _ _ _; intro _) | (show T _ (.code .ret :: _) _ _ _; refine T_retV [] rfl (Hle.none _) ⟨congrArg (Value.int .i64) ?_, rfl⟩))
      have : c.ints.any badN = true := List.any_eq_true.2 ⟨x, List.mem_of_getElem? hx, h2⟩
      unfold costE; rw [if_pos this]
    · repeat' (first | refine d1 ?_ | refine dd ?_ | (show ∀ _ : Nat, T _ _ _ _ _; intro _))
      refine T_back (k + 1) ⟨by omega, fun j y hj hy => ?_⟩ (by omega) ⟨rfl, rfl, rfl, trivial⟩ (Hle.refl _)
      rcases Nat.lt_or_ge j k with h3 | h3
      · exact hok j y h3 hy
      · rw [show j = k by omega, hx] at hy
        cases hy
        exact h2
  · simp only [decide_eq_false_iff_not] at h
    have hany : c.ints.any badN = false := by
      rw [List.any_eq_false]
      intro x hx
      obtain ⟨j, hj, e⟩ := List.getElem_of_mem hx
      have hj4 : j < 4 := hj
      rw [hok j x (by omega) (by rw [List.getElem?_eq_getElem hj, e])]
      simp
    repeat' (first | refine d1 ?_ | refine dd ?_ | (show ∀ _ : Nat, T _ _ _ _ _; intro _))
    refine T_if rfl (fun h2 => ?_) (fun h2 => ?_)
    · simp only [decide_eq_true_eq] at h2
      repeat' (first | refine d1 ?_ | refine dd ?_ | (show ∀ _ : Nat, T _ _ _ _ _; intro _) | (show T _ (.code .ret :: _) _ _ _; refine T_retV [] rfl (Hle.none _) ⟨congrArg (Value.int .i64) ?_, rfl⟩))
      unfold costE; rw [if_neg (by rw [hany]; simp), if_pos h2]
    · simp only [decide_eq_false_iff_not] at h2
      repeat' (first | refine d1 ?_ | refine dd ?_ | (show ∀ _ : Nat, T _ _ _ _ _; intro _) | (show T _ (.code .ret :: _) _ _ _; refine T_retV [] rfl (Hle.none _) ⟨congrArg (Value.int .i64) ?_, rfl⟩))
      unfold costE; rw [if_neg (by rw [hany]; simp), if_neg h2]

theorem gapPrgC_spec (c : Costs) (t : Tok) (hc : 0 ≤ c.gap ∧ c.gap ≤ 1000) (ht : 0 ≤ t.flags ∧ t.flags ≤ 31) (w : World) : Spec Tryd.prog 33 [c.val, t.val] w (fun v A => v = .int .i64 (gapC c t) ∧ A = []) := by
  refine spec_of sg Tryd.func33 rfl rfl rfl ?_
  have hfl := (flags_law t.flags ht).2.1
  refine T_op (OpT.box (cs := c.cells) rfl rfl rfl rfl rfl rfl rfl (fun _ => ?_))
  repeat' (first | (show T _ (.ops _ (⟨_, .box _ _, _, _, _, _⟩ :: _) :: _) _ _ _; refine T_op (OpT.box (cs := t.cells) rfl rfl rfl rfl rfl rfl rfl (fun _ => ?_))) | refine d1 ?_ | refine dd ?_ | (show ∀ _ : Nat, T _ _ _ _ _; intro _))
  rw [show (!decide (andI t.flags 8 = 0)) = hasN t.flags 8 by rw [← hfl]; simp]
  refine T_if rfl (fun h => ?_) (fun h => ?_)
  · repeat' (first | refine d1 ?_ | refine dd ?_ | (show ∀ _ : Nat, T _ _ _ _ _; intro _) | (show T _ (.code .ret :: _) _ _ _; refine T_retV [] rfl (Hle.none _) ⟨congrArg (Value.int .i64) ?_, rfl⟩))
    unfold gapC; rw [if_pos h]
  · repeat' (first | refine d1 ?_ | refine dd ?_ | (show ∀ _ : Nat, T _ _ _ _ _; intro _) | (show T _ (.code .ret :: _) _ _ _; refine T_retV [] rfl (Hle.none _) ⟨congrArg (Value.int .i64) ?_, rfl⟩))
    unfold gapC; rw [if_neg (by rw [h]; simp)]
theorem gapRefC_spec (c : Costs) (t : Tok) (hc : 0 ≤ c.gap ∧ c.gap ≤ 1000) (ht : 0 ≤ t.flags ∧ t.flags ≤ 31) (w : World) : Spec Tryd.prog 34 [c.val, t.val] w (fun v A => v = .int .i64 (gapC c t) ∧ A = []) := by
  refine spec_of sg Tryd.func34 rfl rfl rfl ?_
  refine T_op (OpT.box (cs := c.cells) rfl rfl rfl rfl rfl rfl rfl (fun _ => ?_))
  refine T_op (OpT.box (cs := t.cells) rfl rfl rfl rfl rfl rfl rfl (fun _ => ?_))
  repeat' (first | refine d1 ?_ | refine dd ?_ | (show T _ (.ops _ (_ :: _) :: _) _ _ _; first | refine T_call rfl rfl rfl rfl rfl (fun w hw => hasRef17_spec t 8 (.inr rfl) ht w) ?_ | refine T_callC rfl rfl rfl rfl rfl rfl rfl (fun hg w hw => hasRef17_spec t 8 (.inr rfl) ht w) ?_) | (show T _ (.run _ _ (_ :: _) _ _ :: _) _ _ _; first | refine rc rfl rfl rfl rfl rfl rfl rfl (fun w hw => hasRef17_spec t 8 (.inr rfl) ht w) ?_ | refine rcG rfl rfl rfl rfl rfl rfl rfl rfl rfl (fun hg w hw => hasRef17_spec t 8 (.inr rfl) ht w) ?_) | (show ∀ _ : Nat, T _ _ _ _ _; intro _))
  refine T_if rfl (fun h => ?_) (fun h => ?_)
  · repeat' (first | refine d1 ?_ | refine dd ?_ | (show ∀ _ : Nat, T _ _ _ _ _; intro _) | (show T _ (.code .ret :: _) _ _ _; refine T_retV [] rfl (Hle.none _) ⟨congrArg (Value.int .i64) ?_, rfl⟩))
    unfold gapC; rw [if_pos h]
  · repeat' (first | refine d1 ?_ | refine dd ?_ | (show ∀ _ : Nat, T _ _ _ _ _; intro _) | (show T _ (.code .ret :: _) _ _ _; refine T_retV [] rfl (Hle.none _) ⟨congrArg (Value.int .i64) ?_, rfl⟩))
    unfold gapC; rw [if_neg (by rw [h]; simp)]
theorem pairRefC_spec (c : Costs) (a b : Tok) (hc : costE c = 0) (ha : 0 ≤ a.flags ∧ a.flags ≤ 31) (hb : 0 ≤ b.flags ∧ b.flags ≤ 31) (hsa : a.norm.size ≤ 128) (hsb : b.norm.size ≤ 128) (w : World) : Spec Tryd.prog 32 [c.val, a.val, b.val] w (fun v A => v = .int .i64 (pairC c a b) ∧ A = []) := by
  obtain ⟨c1, c2, c3, c4, c5⟩ := costE_ok hc
  refine spec_of sg Tryd.func32 rfl rfl rfl ?_
  refine T_op (OpT.box (cs := c.cells) rfl rfl rfl rfl rfl rfl rfl (fun _ => ?_))
  refine T_op (OpT.box (cs := a.cells) rfl rfl rfl rfl rfl rfl rfl (fun _ => ?_))
  refine T_op (OpT.box (cs := b.cells) rfl rfl rfl rfl rfl rfl rfl (fun _ => ?_))
  repeat' (first | refine d1 ?_ | refine dd ?_ | (show ∀ _ : Nat, T _ _ _ _ _; intro _))
  refine T_if rfl (fun h => ?_) (fun h => ?_)
  · simp only [decide_eq_true_eq] at h
    repeat' (first | refine d1 ?_ | refine dd ?_ | (show ∀ _ : Nat, T _ _ _ _ _; intro _) | (show T _ (.code .ret :: _) _ _ _; refine T_retV [] rfl (Hle.none _) ⟨congrArg (Value.int .i64) ?_, rfl⟩))
    unfold pairC; rw [if_pos h]
  simp only [decide_eq_false_iff_not] at h
  repeat' (first | refine d1 ?_ | refine dd ?_ | (show T _ (.ops _ (_ :: _) :: _) _ _ _; first | refine T_call rfl rfl rfl rfl rfl (fun w hw => hasRef17_spec a 2 (.inl rfl) ha w) ?_ | refine T_callC rfl rfl rfl rfl rfl rfl rfl (fun hg w hw => hasRef17_spec a 2 (.inl rfl) ha w) ?_ | refine T_call rfl rfl rfl rfl rfl (fun w hw => hasRef17_spec b 2 (.inl rfl) hb w) ?_ | refine T_callC rfl rfl rfl rfl rfl rfl rfl (fun hg w hw => hasRef17_spec b 2 (.inl rfl) hb w) ?_ | refine T_loadAC rfl rfl rfl rfl rfl rfl rfl (fun _ => rdAll) rfl ?_) | (show T _ (.run _ _ (_ :: _) _ _ :: _) _ _ _; first | refine rc rfl rfl rfl rfl rfl rfl rfl (fun w hw => hasRef17_spec a 2 (.inl rfl) ha w) ?_ | refine rcG rfl rfl rfl rfl rfl rfl rfl rfl rfl (fun hg w hw => hasRef17_spec a 2 (.inl rfl) ha w) ?_ | refine rc rfl rfl rfl rfl rfl rfl rfl (fun w hw => hasRef17_spec b 2 (.inl rfl) hb w) ?_ | refine rcG rfl rfl rfl rfl rfl rfl rfl rfl rfl (fun hg w hw => hasRef17_spec b 2 (.inl rfl) hb w) ?_) | (show ∀ _ : Nat, T _ _ _ _ _; intro _))
  refine T_if rfl (fun h2 => ?_) (fun h2 => ?_)
  · simp only [Bool.or_eq_true, decide_eq_true_eq, or_assoc] at h2
    repeat' (first | refine d1 ?_ | refine dd ?_ | (show ∀ _ : Nat, T _ _ _ _ _; intro _) | (show T _ (.code .ret :: _) _ _ _; refine T_retV [] rfl (Hle.none _) ⟨congrArg (Value.int .i64) ?_, rfl⟩))
    unfold pairC; rw [if_neg h, if_pos h2]
  simp only [Bool.or_eq_false_iff, decide_eq_false_iff_not] at h2
  repeat' (first | refine d1 ?_ | refine dd ?_ | (show ∀ _ : Nat, T _ _ _ _ _; intro _))
  refine T_op (OpT.call rfl rfl rfl rfl rfl (fun w _ => distRef_spec a.norm b.norm (by omega) (by omega) w) ?_)
  rintro v A ⟨hv, rfl⟩
  rw [if_neg (by omega)] at hv
  subst hv
  show T _ _ _ _ [_, _, _]
  have hd := lv_bd (eqB a.norm b.norm) a.norm.size b.norm.size
  have hm : 0 ≤ c.letter * lv (eqB a.norm b.norm) a.norm.size b.norm.size ∧ c.letter * lv (eqB a.norm b.norm) a.norm.size b.norm.size ≤ 1000 * 256 :=
    ⟨Int.mul_nonneg (by omega) (by omega), Int.mul_le_mul (by omega) (by omega) (by omega) (by omega)⟩
  repeat' (first | refine d1 ?_ | refine dd ?_ | (show ∀ _ : Nat, T _ _ _ _ _; intro _) | (show T _ (.code .ret :: _) _ _ _; refine T_retV [] rfl (Hle.none _) ⟨congrArg (Value.int .i64) ?_, rfl⟩))
  have h3 : ¬ (a.norm = b.norm ∨ hasN a.flags 2 = true ∨ hasN b.flags 2 = true) := by
    rintro (h3 | h3 | h3)
    · exact h2.1.1 h3
    · rw [h2.1.2] at h3; cases h3
    · rw [h2.2] at h3; cases h3
  unfold pairC; rw [if_neg h, if_neg h3]; rfl

theorem rule3_spec (c : Costs) (a b : Tok) (hc : costE c = 0) (hsa : a.norm.size ≤ 128) (hsb : b.norm.size ≤ 128) (w : World) : Spec Tryd.prog 62 [c.val, a.val, b.val] w (fun v A => v = .tuple #[.int .i64 (min c.most (max c.norm (c.letter * distS a.norm b.norm))), .bool true] ∧ A = []) := by
  obtain ⟨c1, c2, c3, c4, c5⟩ := costE_ok hc
  refine spec_of sg Tryd.func62 rfl rfl rfl ?_
  refine T_op (OpT.box (cs := c.cells) rfl rfl rfl rfl rfl rfl rfl (fun _ => ?_))
  refine T_op (OpT.box (cs := a.cells) rfl rfl rfl rfl rfl rfl rfl (fun _ => ?_))
  refine T_op (OpT.box (cs := b.cells) rfl rfl rfl rfl rfl rfl rfl (fun _ => ?_))
  repeat' (first | refine d1 ?_ | refine dd ?_ | (show ∀ _ : Nat, T _ _ _ _ _; intro _))
  refine T_op (OpT.call rfl rfl rfl rfl rfl (fun w _ => distPrg_spec a.norm b.norm w) ?_)
  rintro v A ⟨hv, rfl⟩
  rw [if_neg (by omega)] at hv
  subst hv
  show T _ _ _ _ [_, _, _]
  have hd := lv_bd (eqB a.norm b.norm) a.norm.size b.norm.size
  have hm : 0 ≤ c.letter * lv (eqB a.norm b.norm) a.norm.size b.norm.size ∧ c.letter * lv (eqB a.norm b.norm) a.norm.size b.norm.size ≤ 1000 * 256 :=
    ⟨Int.mul_nonneg (by omega) (by omega), Int.mul_le_mul (by omega) (by omega) (by omega) (by omega)⟩
  repeat' (first | refine d1 ?_ | refine dd ?_ | (show ∀ _ : Nat, T _ _ _ _ _; intro _) | (show T _ (.code .ret :: _) _ _ _; refine T_retV [] rfl (Hle.none _) ⟨rfl, rfl⟩))

theorem rule1_spec (c : Costs) (a b : Tok) (w : World) : Spec Tryd.prog 60 [c.val, a.val, b.val] w (fun v A => v = .tuple #[.int .i64 0, .bool (decide (a.text = b.text))] ∧ A = []) := by
  refine spec_of sg Tryd.func60 rfl rfl rfl ?_
  refine T_op (OpT.box (cs := c.cells) rfl rfl rfl rfl rfl rfl rfl (fun pc => ?_))
  refine T_op (OpT.box (cs := a.cells) rfl rfl rfl rfl rfl rfl rfl (fun pa => ?_))
  refine T_op (OpT.box (cs := b.cells) rfl rfl rfl rfl rfl rfl rfl (fun pb => ?_))
  repeat' (first | refine d1 ?_ | refine dd ?_ | (show ∀ _ : Nat, T _ _ _ _ _; intro _) | (show T _ (.code .ret :: _) _ _ _; refine T_retV [] rfl (Hle.none _) ⟨rfl, rfl⟩))

theorem rule2_spec (c : Costs) (a b : Tok) (ha : 0 ≤ a.flags ∧ a.flags ≤ 31) (hb : 0 ≤ b.flags ∧ b.flags ≤ 31) (ho : 0 ≤ orI a.flags b.flags ∧ orI a.flags b.flags ≤ 31) (w : World) : Spec Tryd.prog 61 [c.val, a.val, b.val] w (fun v A => v = .tuple #[.int .i64 c.norm, .bool (decide (a.norm = b.norm) || !decide (andI (orI a.flags b.flags) 2 = 0))] ∧ A = []) := by
  refine spec_of sg Tryd.func61 rfl rfl rfl ?_
  refine T_op (OpT.box (cs := c.cells) rfl rfl rfl rfl rfl rfl rfl (fun pc => ?_))
  refine T_op (OpT.box (cs := a.cells) rfl rfl rfl rfl rfl rfl rfl (fun pa => ?_))
  refine T_op (OpT.box (cs := b.cells) rfl rfl rfl rfl rfl rfl rfl (fun pb => ?_))
  repeat' (first | refine d1 ?_ | refine dd ?_ | (show ∀ _ : Nat, T _ _ _ _ _; intro _) | (show T _ (.code .ret :: _) _ _ _; refine T_retV [] rfl (Hle.none _) ⟨rfl, rfl⟩))
end Go.Proofs.YtiglobijdegjdaaDoor
