/- Walks: words and tokens, by the program. -/
import Derived.Test.YtiglobijdegjdaaDoorWalkD
import Derived.Test.YtiglobijdegjdaaDoorWalkE
namespace Go.Proofs.YtiglobijdegjdaaDoor
open Go.RowKit Go.Shelf Go.Proofs
set_option maxRecDepth 100000
set_option maxHeartbeats 1000000

theorem isWord1_spec (c : Int) (hc : 0 ≤ c ∧ c ≤ 255) (w : World) : Spec Tryd.prog 72 [.int .u8 c] w (fun v A => v = .bool (decide (kindI c = 5) || decide (kindI c = 6)) ∧ A = []) := by
  refine spec_of sg Tryd.func72 rfl rfl rfl ?_
  repeat' (first | refine d1 ?_ | refine dd ?_ | (show T _ (.ops _ (_ :: _) :: _) _ _ _; first | refine T_call rfl rfl rfl rfl rfl (fun w hw => kindPrg_spec c hc w) ?_ | refine T_callC rfl rfl rfl rfl rfl rfl rfl (fun hg w hw => kindPrg_spec c hc w) ?_) | (show T _ (.run _ _ (_ :: _) _ _ :: _) _ _ _; first | refine rc rfl rfl rfl rfl rfl rfl rfl (fun w hw => kindPrg_spec c hc w) ?_ | refine rcG rfl rfl rfl rfl rfl rfl rfl rfl rfl (fun hg w hw => kindPrg_spec c hc w) ?_) | (show ∀ _ : Nat, T _ _ _ _ _; intro _) | (show T _ (.code .ret :: _) _ _ _; refine T_retV [] rfl (Hle.refl _) ⟨rfl, rfl⟩))
theorem isWordPrg_spec (s : ByteArray) (w : World) : Spec Tryd.prog 53 [.string s] w (fun v A => v = .bool (isWordB s) ∧ A = []) := by
  refine spec_of sg Tryd.func53 rfl rfl rfl ?_
  repeat' (first | refine d1 ?_ | refine dd ?_ | (show T _ (.ops _ (_ :: _) :: _) _ _ _; first | refine T_call rfl rfl rfl rfl rfl (fun w hw => checkPrg_spec s w) ?_ | refine T_callC rfl rfl rfl rfl rfl rfl rfl (fun hg w hw => checkPrg_spec s w) ?_) | (show T _ (.run _ _ (_ :: _) _ _ :: _) _ _ _; first | refine rc rfl rfl rfl rfl rfl rfl rfl (fun w hw => checkPrg_spec s w) ?_ | refine rcG rfl rfl rfl rfl rfl rfl rfl rfl rfl (fun hg w hw => checkPrg_spec s w) ?_) | (show ∀ _ : Nat, T _ _ _ _ _; intro _))
  refine T_if rfl (fun h => ?_) (fun h => ?_)
  · repeat' (first | refine d1 ?_ | refine dd ?_ | (show ∀ _ : Nat, T _ _ _ _ _; intro _) | (show T _ (.code .ret :: _) _ _ _; refine T_retV [] rfl (Hle.refl _) ⟨congrArg Value.bool ?_, rfl⟩))
    simp only [Bool.or_eq_true, decide_eq_true_eq, Bool.not_eq_true', decide_eq_false_iff_not] at h
    unfold isWordB
    by_cases h1 : 1 ≤ s.size ∧ s.size ≤ 64
    · have h2 : okAll s = false := by
        cases h3 : okAll s with
        | false => rfl
        | true =>
          have h4 := (empty_size (s := s)).1
          unfold checkS at h
          rw [if_neg (by omega), h3] at h
          rcases h with (h | h) | h
          · have := h4 h; omega
          · omega
          · exact absurd rfl h
      simp [h2]
    · simp [h1]
  simp only [Bool.or_eq_false_iff, decide_eq_false_iff_not, Bool.not_eq_false', decide_eq_true_eq] at h
  have h1 : 1 ≤ s.size ∧ s.size ≤ 64 := by
    have h4 := (empty_size (s := s)).2
    have : s.size ≠ 0 := fun h5 => h.1.1 (h4 h5)
    omega
  have h2 : okAll s = true := by
    cases h3 : okAll s with
    | true => rfl
    | false => have h4 := h.2; unfold checkS at h4; rw [if_neg (by omega), h3] at h4; simp at h4
  repeat' (first | refine d1 ?_ | refine dd ?_ | (show T _ (.ops _ (_ :: _) :: _) _ _ _; first | refine T_call rfl rfl rfl rfl rfl (fun w hw => kindPrg_spec _ (byteAt_bd _ _) w) ?_ | refine T_callC rfl rfl rfl rfl rfl rfl rfl (fun hg w hw => kindPrg_spec _ (byteAt_bd _ _) w) ?_) | (show T _ (.run _ _ (_ :: _) _ _ :: _) _ _ _; first | refine rc rfl rfl rfl rfl rfl rfl rfl (fun w hw => kindPrg_spec _ (byteAt_bd _ _) w) ?_ | refine rcG rfl rfl rfl rfl rfl rfl rfl rfl rfl (fun hg w hw => kindPrg_spec _ (byteAt_bd _ _) w) ?_) | (show ∀ _ : Nat, T _ _ _ _ _; intro _))
  refine T_if rfl (fun h3 => ?_) (fun h3 => ?_)
  · repeat' (first | refine d1 ?_ | refine dd ?_ | (show ∀ _ : Nat, T _ _ _ _ _; intro _) | (show T _ (.code .ret :: _) _ _ _; refine T_retV [] rfl (Hle.refl _) ⟨congrArg Value.bool ?_, rfl⟩))
    have h4 : (decide (kAt s 0 = 1) || decide (kAt s 0 = 3)) = false := by
      simp only [Bool.and_eq_true, Bool.not_eq_true'] at h3
      rw [Bool.or_eq_false_iff]; exact h3
    unfold isWordB
    simp [h4]
  have h4 : (decide (kAt s 0 = 1) || decide (kAt s 0 = 3)) = true := by
    simp only [Bool.and_eq_false_iff, Bool.not_eq_false'] at h3
    rw [Bool.or_eq_true]; exact h3
  repeat' (first | refine d1 ?_ | refine dd ?_ | (show T _ (.ops _ (_ :: _) :: _) _ _ _; first | refine T_op (OpT.bytes rfl rfl rfl rfl rfl (fun b cap => ?_)) | refine T_call rfl rfl rfl rfl rfl (fun w hw => containsFuncB_spec _ _ _ s.data.toList _ [] [] (fun c => decide (kindB c = 5) || decide (kindB c = 6)) w (srcByt w hw) (by simp) (by omega) (fun c _ w' _ => isWord1_spec _ (by have := c.toNat_lt; omega) w')) ?_ | refine T_callC rfl rfl rfl rfl rfl rfl rfl (fun hg w hw => containsFuncB_spec _ _ _ s.data.toList _ [] [] (fun c => decide (kindB c = 5) || decide (kindB c = 6)) w (srcByt w hw) (by simp) (by omega) (fun c _ w' _ => isWord1_spec _ (by have := c.toNat_lt; omega) w')) ?_) | (show T _ (.run _ _ (_ :: _) _ _ :: _) _ _ _; first | refine rc rfl rfl rfl rfl rfl rfl rfl (fun w hw => containsFuncB_spec _ _ _ s.data.toList _ [] [] (fun c => decide (kindB c = 5) || decide (kindB c = 6)) w (srcByt w hw) (by simp) (by omega) (fun c _ w' _ => isWord1_spec _ (by have := c.toNat_lt; omega) w')) ?_ | refine rcG rfl rfl rfl rfl rfl rfl rfl rfl rfl (fun hg w hw => containsFuncB_spec _ _ _ s.data.toList _ [] [] (fun c => decide (kindB c = 5) || decide (kindB c = 6)) w (srcByt w hw) (by simp) (by omega) (fun c _ w' _ => isWord1_spec _ (by have := c.toNat_lt; omega) w')) ?_) | (show ∀ _ : Nat, T _ _ _ _ _; intro _) | (show T _ (.code .ret :: _) _ _ _; refine T_retV [] rfl (Hle.none _) ⟨congrArg Value.bool ?_, rfl⟩))
  exact isWord_law s h1 h2 h4

theorem mark_case : ∀ {p q r z : Bool}, (!(p && (q || r))) = true → (!(p && (q || r))) = (!p || (!q && !r) || !z) := by decide
theorem lt_le64 (n : Nat) : decide ((64 : Int) < n) = !decide ((n : Int) ≤ 64) := by rw [Bool.eq_iff_iff]; simp
theorem word_case1 : ∀ {p q r z : Bool}, (!p) = false → (!false && !false && !(z && (!q && r))) = true → (!false && !false && !(z && (!q && r))) = (!p || q || !r || !z) := by decide
theorem word_case2 : ∀ {p q r z e : Bool}, (!p) = false → (!false && !false && !(z && (!q && r))) = false → (!(!false && !false) && !e) = (!p || q || !r || !z) := by decide
/-- The bounds of a token's strings that the program's own walk asks for. -/
def Tok.small (t : Tok) : Prop := t.text.size ≤ 65536 ∧ t.norm.size ≤ 65536 ∧ t.page.size ≤ 65536 ∧ t.name.size ≤ 65536
theorem tokPrg_spec (t : Tok) (ht : t.small) (w : World) (hw0 : Std w) : Spec Tryd.prog 39 [t.val] w (fun v A => v = .int .i64 (tokE t) ∧ A = []) := by
  obtain ⟨ht1, ht2, ht3, ht4⟩ := ht
  refine spec_of sg Tryd.func39 rfl rfl rfl ?_
  repeat' (first | (show T _ (.ops _ (⟨_, .box _ _, _, _, _, _⟩ :: _) :: _) _ _ _; refine T_op (OpT.box (cs := t.cells) rfl rfl rfl rfl rfl rfl rfl (fun _ => ?_))) | refine d1 ?_ | refine dd ?_ | (show ∀ _ : Nat, T _ _ _ _ _; intro _))
  rename_i b
  refine T_if rfl (fun h => ?_) (fun h => ?_)
  · repeat' (first | refine d1 ?_ | refine dd ?_ | (show ∀ _ : Nat, T _ _ _ _ _; intro _) | (show T _ (.code .ret :: _) _ _ _; refine T_retV [] rfl (Hle.none _) ⟨?_, rfl⟩))
    simp only [Bool.or_eq_true, decide_eq_true_eq] at h
    unfold tokE; rw [if_pos h]; rfl
  simp only [Bool.or_eq_false_iff, decide_eq_false_iff_not] at h
  have e1 : ¬ (t.flags < 0 ∨ 31 < t.flags) := by omega
  have hfl := flags_law t.flags (by omega)
  refine T_draw 1000 [blk b t.cells 27] ?_
  refine T_dval 0 rfl (by kernel_rfl) (by kernel_rfl) (by kernel_rfl) (by kernel_rfl) (by kernel_rfl) rfl rfl (by first | exact Val.pure rfl | exact Val.vc rfl (fun hg => by first | omega | (simp only [inK]; omega) | exact True.intro | assumption) | exact Val.load rfl (fun _ => rdOwn1 rfl) | exact Val.loadA rfl (fun _ => rdAll) rfl) rfl rfl rfl (by first | exact Hle.refl _ | exact Hle.none _) ?_
  refine T_dval 1 rfl (by kernel_rfl) (by kernel_rfl) (by kernel_rfl) (by kernel_rfl) (by kernel_rfl) rfl rfl (by first | exact Val.pure rfl | exact Val.vc rfl (fun hg => by first | omega | (simp only [inK]; omega) | exact True.intro | assumption) | exact Val.load rfl (fun _ => rdOwn1 rfl) | exact Val.loadA rfl (fun _ => rdAll) rfl) rfl rfl rfl (by first | exact Hle.refl _ | exact Hle.none _) ?_
  refine T_dval 2 rfl (by kernel_rfl) (by kernel_rfl) (by kernel_rfl) (by kernel_rfl) (by kernel_rfl) rfl rfl (by first | exact Val.pure rfl | exact Val.vc rfl (fun hg => by first | omega | (simp only [inK]; omega) | exact True.intro | assumption) | exact Val.load rfl (fun _ => rdOwn1 rfl) | exact Val.loadA rfl (fun _ => rdAll) rfl) rfl rfl rfl (by first | exact Hle.refl _ | exact Hle.none _) ?_
  refine T_dval 3 rfl (by kernel_rfl) (by kernel_rfl) (by kernel_rfl) (by kernel_rfl) (by kernel_rfl) rfl rfl (by first | exact Val.pure rfl | exact Val.vc rfl (fun hg => by first | omega | (simp only [inK]; omega) | exact True.intro | assumption) | exact Val.load rfl (fun _ => rdOwn1 rfl) | exact Val.loadA rfl (fun _ => rdAll) rfl) rfl rfl rfl (by first | exact Hle.refl _ | exact Hle.none _) ?_
  refine T_dval 4 rfl (by kernel_rfl) (by kernel_rfl) (by kernel_rfl) (by kernel_rfl) (by kernel_rfl) rfl rfl (by first | exact Val.pure rfl | exact Val.vc rfl (fun hg => by first | omega | (simp only [inK]; omega) | exact True.intro | assumption) | exact Val.load rfl (fun _ => rdOwn1 rfl) | exact Val.loadA rfl (fun _ => rdAll) rfl) rfl rfl rfl (by first | exact Hle.refl _ | exact Hle.none _) ?_
  refine T_dval 5 rfl (by kernel_rfl) (by kernel_rfl) (by kernel_rfl) (by kernel_rfl) (by kernel_rfl) rfl rfl (by first | exact Val.pure rfl | exact Val.vc rfl (fun hg => by first | omega | (simp only [inK]; omega) | exact True.intro | assumption) | exact Val.load rfl (fun _ => rdOwn1 rfl) | exact Val.loadA rfl (fun _ => rdAll) rfl) rfl rfl rfl (by first | exact Hle.refl _ | exact Hle.none _) ?_
  refine T_dval 6 rfl (by kernel_rfl) (by kernel_rfl) (by kernel_rfl) (by kernel_rfl) (by kernel_rfl) rfl rfl (by first | exact Val.pure rfl | exact Val.vc rfl (fun hg => by first | omega | (simp only [inK]; omega) | exact True.intro | assumption) | exact Val.load rfl (fun _ => rdOwn1 rfl) | exact Val.loadA rfl (fun _ => rdAll) rfl) rfl rfl rfl (by first | exact Hle.refl _ | exact Hle.none _) ?_
  refine T_dval 7 rfl (by kernel_rfl) (by kernel_rfl) (by kernel_rfl) (by kernel_rfl) (by kernel_rfl) rfl rfl (by first | exact Val.pure rfl | exact Val.vc rfl (fun hg => by first | omega | (simp only [inK]; omega) | exact True.intro | assumption) | exact Val.load rfl (fun _ => rdOwn1 rfl) | exact Val.loadA rfl (fun _ => rdAll) rfl) rfl rfl rfl (by first | exact Hle.refl _ | exact Hle.none _) ?_
  refine T_dval 8 rfl (by kernel_rfl) (by kernel_rfl) (by kernel_rfl) (by kernel_rfl) (by kernel_rfl) rfl rfl (by first | exact Val.pure rfl | exact Val.vc rfl (fun hg => by first | omega | (simp only [inK]; omega) | exact True.intro | assumption) | exact Val.load rfl (fun _ => rdOwn1 rfl) | exact Val.loadA rfl (fun _ => rdAll) rfl) rfl rfl rfl (by first | exact Hle.refl _ | exact Hle.none _) ?_
  refine T_dval 9 rfl (by kernel_rfl) (by kernel_rfl) (by kernel_rfl) (by kernel_rfl) (by kernel_rfl) rfl rfl (by first | exact Val.pure rfl | exact Val.vc rfl (fun hg => by first | omega | (simp only [inK]; omega) | exact True.intro | assumption) | exact Val.load rfl (fun _ => rdOwn1 rfl) | exact Val.loadA rfl (fun _ => rdAll) rfl) rfl rfl rfl (by first | exact Hle.refl _ | exact Hle.none _) ?_
  refine T_dend (by kernel_rfl) ?_
  rw [show (!decide (andI t.flags 2 = 0)) = hasN t.flags 2 by rw [← hfl.1]; simp, show (!decide (andI t.flags 8 = 0)) = hasN t.flags 8 by rw [← hfl.2.1]; simp]
  repeat' (first | refine d1 ?_ | refine dd ?_ | (show ∀ _ : Nat, T _ _ _ _ _; intro _))
  refine T_if rfl (fun h2 => ?_) (fun h2 => ?_)
  · repeat' (first | refine d1 ?_ | refine dd ?_ | (show ∀ _ : Nat, T _ _ _ _ _; intro _) | (show T _ (.code .ret :: _) _ _ _; refine T_retV [] rfl (Hle.none _) ⟨?_, rfl⟩))
    unfold tokE; rw [if_neg e1, if_pos h2]; rfl
  have e2 : ¬ ((hasN t.flags 2 && hasN t.flags 8) = true) := by rw [h2]; simp
  repeat' (first | refine d1 ?_ | refine dd ?_ | (show ∀ _ : Nat, T _ _ _ _ _; intro _))
  refine T_if rfl (fun h3 => ?_) (fun h3 => ?_)
  · have h4 : hasN t.flags 8 = false := by rw [h3] at h2; simpa using h2
    repeat' (first | refine d1 ?_ | refine dd ?_ | (show ∀ _ : Nat, T _ _ _ _ _; intro _))
    refine T_if rfl (fun h9 => absurd (h9.symm.trans h4) (by simp)) (fun _ => ?_)
    show T _ [_, _, _, _, _] _ _ _
    refine T_cutAt 2 (fun _ : Unit => [(1, .pointer (some ⟨b, 0, none⟩)), (28, .bool (formBad t))]) (fun _ => [blk b t.cells 27]) (fun _ => True) rfl ?_ ?_
    · have hfb : formBad t = (!gappedB t.text || !decide (t.norm = t.text)) := by unfold formBad; rw [if_pos h3]
      repeat' (first | refine d1 ?_ | refine dd ?_ | (show T _ (.ops _ (_ :: _) :: _) _ _ _; first | refine T_call rfl rfl rfl rfl rfl (fun w hw => gapPrg_spec _ (by omega) w (hw0.cls hw)) ?_ | refine T_callC rfl rfl rfl rfl rfl rfl rfl (fun hg w hw => gapPrg_spec _ (by omega) w (hw0.cls hw)) ?_) | (show T _ (.run _ _ (_ :: _) _ _ :: _) _ _ _; first | refine rc rfl rfl rfl rfl rfl rfl rfl (fun w hw => gapPrg_spec _ (by omega) w (hw0.cls hw)) ?_ | refine rcG rfl rfl rfl rfl rfl rfl rfl rfl rfl (fun hg w hw => gapPrg_spec _ (by omega) w (hw0.cls hw)) ?_) | (show ∀ _ : Nat, T _ _ _ _ _; intro _))
      refine T_if rfl (fun h5 => ?_) (fun h5 => ?_)
      · repeat' (first | refine d1 ?_ | refine dd ?_ | (show ∀ _ : Nat, T _ _ _ _ _; intro _) | (show T _ _ _ _ _; refine T_meet () trivial ⟨rfl, ?_, trivial⟩ (Hle.refl _)))
        refine congrArg (fun q => some (Value.bool q)) ?_
        rw [hfb]; rw [h5]; rfl
      · repeat' (first | refine d1 ?_ | refine dd ?_ | (show T _ (.ops _ (_ :: _) :: _) _ _ _; first | refine T_loadA rfl rfl rfl rfl rfl (rdOwn (vs := t.cells) (fun j u hu => by rw [Nat.zero_add]; exact hu)) rfl ?_ | refine T_call rfl rfl rfl rfl rfl (fun w hw => isWordTok_spec t (by omega) w) ?_ | refine T_callC rfl rfl rfl rfl rfl rfl rfl (fun hg w hw => isWordTok_spec t (by omega) w) ?_ | refine T_call rfl rfl rfl rfl rfl (fun w hw => normPrg_spec _ (by omega) w) ?_ | refine T_callC rfl rfl rfl rfl rfl rfl rfl (fun hg w hw => normPrg_spec _ (by omega) w) ?_) | (show T _ (.run _ _ (_ :: _) _ _ :: _) _ _ _; first | refine rc rfl rfl rfl rfl rfl rfl rfl (fun w hw => isWordTok_spec t (by omega) w) ?_ | refine rcG rfl rfl rfl rfl rfl rfl rfl rfl rfl (fun hg w hw => isWordTok_spec t (by omega) w) ?_ | refine rc rfl rfl rfl rfl rfl rfl rfl (fun w hw => normPrg_spec _ (by omega) w) ?_ | refine rcG rfl rfl rfl rfl rfl rfl rfl rfl rfl (fun hg w hw => normPrg_spec _ (by omega) w) ?_) | (show ∀ _ : Nat, T _ _ _ _ _; intro _))
        refine T_if rfl (fun h6 => ?_) (fun h6 => ?_)
        · repeat' (first | refine d1 ?_ | refine dd ?_ | (show ∀ _ : Nat, T _ _ _ _ _; intro _) | (show T _ _ _ _ _; refine T_meet () trivial ⟨rfl, ?_, trivial⟩ (Hle.refl _)))
          refine congrArg (fun q => some (Value.bool q)) ?_
          rw [hfb]; simp [h3] at h6
        · repeat' (first | refine d1 ?_ | refine dd ?_ | (show T _ (.ops _ (_ :: _) :: _) _ _ _; first | refine T_loadA rfl rfl rfl rfl rfl (rdOwn (vs := t.cells) (fun j u hu => by rw [Nat.zero_add]; exact hu)) rfl ?_ | refine T_call rfl rfl rfl rfl rfl (fun w hw => isWordTok_spec t (by omega) w) ?_ | refine T_callC rfl rfl rfl rfl rfl rfl rfl (fun hg w hw => isWordTok_spec t (by omega) w) ?_) | (show T _ (.run _ _ (_ :: _) _ _ :: _) _ _ _; first | refine rc rfl rfl rfl rfl rfl rfl rfl (fun w hw => isWordTok_spec t (by omega) w) ?_ | refine rcG rfl rfl rfl rfl rfl rfl rfl rfl rfl (fun hg w hw => isWordTok_spec t (by omega) w) ?_) | (show ∀ _ : Nat, T _ _ _ _ _; intro _) | (show T _ _ _ _ _; refine T_meet () trivial ⟨rfl, ?_, trivial⟩ (Hle.refl _)))
          refine congrArg (fun q => some (Value.bool q)) ?_
          rw [hfb]; rw [Bool.not_eq_false'] at h5; simp [h3, h5]
    · rintro ⟨⟩ _
      repeat' (first | refine d1 ?_ | refine dd ?_ | (show ∀ _ : Nat, T _ _ _ _ _; intro _))
      refine T_if rfl (fun h5 => ?_) (fun h5 => ?_)
      · repeat' (first | refine d1 ?_ | refine dd ?_ | (show ∀ _ : Nat, T _ _ _ _ _; intro _) | (show T _ (.code .ret :: _) _ _ _; refine T_retV [] rfl (Hle.none _) ⟨?_, rfl⟩))
        unfold tokE; rw [if_neg e1, if_neg e2, if_pos h5]; rfl
      have e3 : ¬ formBad t = true := by rw [h5]; simp
      repeat' (first | refine d1 ?_ | refine dd ?_ | (show ∀ _ : Nat, T _ _ _ _ _; intro _))
      refine T_if rfl (fun h6 => ?_) (fun h6 => ?_)
      · repeat' (first | refine d1 ?_ | refine dd ?_ | (show ∀ _ : Nat, T _ _ _ _ _; intro _) | (show T _ (.code .ret :: _) _ _ _; refine T_retV [] rfl (Hle.none _) ⟨?_, rfl⟩))
        simp only [decide_eq_true_eq] at h6
        unfold tokE; rw [if_neg e1, if_neg e2, if_neg e3, if_pos h6]; rfl
      simp only [decide_eq_false_iff_not] at h6
      repeat' (first | refine d1 ?_ | refine dd ?_ | (show T _ (.ops _ (_ :: _) :: _) _ _ _; first | refine T_call rfl rfl rfl rfl rfl (fun w hw => namedPrg_spec _ (by omega) w) ?_ | refine T_callC rfl rfl rfl rfl rfl rfl rfl (fun hg w hw => namedPrg_spec _ (by omega) w) ?_) | (show T _ (.run _ _ (_ :: _) _ _ :: _) _ _ _; first | refine rc rfl rfl rfl rfl rfl rfl rfl (fun w hw => namedPrg_spec _ (by omega) w) ?_ | refine rcG rfl rfl rfl rfl rfl rfl rfl rfl rfl (fun hg w hw => namedPrg_spec _ (by omega) w) ?_) | (show ∀ _ : Nat, T _ _ _ _ _; intro _))
      refine T_if rfl (fun h7 => ?_) (fun h7 => ?_)
      · repeat' (first | refine d1 ?_ | refine dd ?_ | (show ∀ _ : Nat, T _ _ _ _ _; intro _) | (show T _ (.code .ret :: _) _ _ _; refine T_retV [] rfl (Hle.none _) ⟨?_, rfl⟩))
        unfold tokE; rw [if_neg e1, if_neg e2, if_neg e3, if_neg h6, if_pos h7]; rfl
      · repeat' (first | refine d1 ?_ | refine dd ?_ | (show ∀ _ : Nat, T _ _ _ _ _; intro _) | (show T _ (.code .ret :: _) _ _ _; refine T_retV [] rfl (Hle.none _) ⟨?_, rfl⟩))
        unfold tokE; rw [if_neg e1, if_neg e2, if_neg e3, if_neg h6, if_neg (by rw [h7]; simp)]; rfl
  · repeat' (first | refine d1 ?_ | refine dd ?_ | (show ∀ _ : Nat, T _ _ _ _ _; intro _))
    refine T_if rfl (fun h4 => ?_) (fun h4 => ?_)
    · repeat' (first | refine d1 ?_ | refine dd ?_ | (show ∀ _ : Nat, T _ _ _ _ _; intro _))
      show T _ [_, _, _, _, _] _ _ _
      refine T_cutAt 2 (fun _ : Unit => [(1, .pointer (some ⟨b, 0, none⟩)), (28, .bool (formBad t))]) (fun _ => [blk b t.cells 27]) (fun _ => True) rfl ?_ ?_
      · have hfb : formBad t = (!decide ((t.text.size : Int) = 1) || (!decide (kAt t.text 0 = 5) && !decide (kAt t.text 0 = 4)) || !decide (t.norm = t.text)) := by unfold formBad; rw [if_neg (by rw [h3]; simp), if_pos h4]
        repeat' (first | refine d1 ?_ | refine dd ?_ | (show T _ (.ops _ (_ :: _) :: _) _ _ _; first | refine T_call rfl rfl rfl rfl rfl (fun w hw => markPrg_spec _ w) ?_ | refine T_callC rfl rfl rfl rfl rfl rfl rfl (fun hg w hw => markPrg_spec _ w) ?_) | (show T _ (.run _ _ (_ :: _) _ _ :: _) _ _ _; first | refine rc rfl rfl rfl rfl rfl rfl rfl (fun w hw => markPrg_spec _ w) ?_ | refine rcG rfl rfl rfl rfl rfl rfl rfl rfl rfl (fun hg w hw => markPrg_spec _ w) ?_) | (show ∀ _ : Nat, T _ _ _ _ _; intro _))
        refine T_if rfl (fun h5 => ?_) (fun h5 => ?_)
        · repeat' (first | refine d1 ?_ | refine dd ?_ | (show ∀ _ : Nat, T _ _ _ _ _; intro _) | (show T _ _ _ _ _; refine T_meet () trivial ⟨rfl, ?_, trivial⟩ (Hle.refl _)))
          refine congrArg (fun q => some (Value.bool q)) ?_
          rw [hfb]; exact mark_case h5
        · repeat' (first | refine d1 ?_ | refine dd ?_ | (show T _ (.ops _ (_ :: _) :: _) _ _ _; first | refine T_loadA rfl rfl rfl rfl rfl (rdOwn (vs := t.cells) (fun j u hu => by rw [Nat.zero_add]; exact hu)) rfl ?_ | refine T_call rfl rfl rfl rfl rfl (fun w hw => isWordTok_spec t (by omega) w) ?_ | refine T_callC rfl rfl rfl rfl rfl rfl rfl (fun hg w hw => isWordTok_spec t (by omega) w) ?_ | refine T_call rfl rfl rfl rfl rfl (fun w hw => normPrg_spec _ (by omega) w) ?_ | refine T_callC rfl rfl rfl rfl rfl rfl rfl (fun hg w hw => normPrg_spec _ (by omega) w) ?_) | (show T _ (.run _ _ (_ :: _) _ _ :: _) _ _ _; first | refine rc rfl rfl rfl rfl rfl rfl rfl (fun w hw => isWordTok_spec t (by omega) w) ?_ | refine rcG rfl rfl rfl rfl rfl rfl rfl rfl rfl (fun hg w hw => isWordTok_spec t (by omega) w) ?_ | refine rc rfl rfl rfl rfl rfl rfl rfl (fun w hw => normPrg_spec _ (by omega) w) ?_ | refine rcG rfl rfl rfl rfl rfl rfl rfl rfl rfl (fun hg w hw => normPrg_spec _ (by omega) w) ?_) | (show ∀ _ : Nat, T _ _ _ _ _; intro _))
          refine T_if rfl (fun h6 => ?_) (fun h6 => ?_)
          · repeat' (first | refine d1 ?_ | refine dd ?_ | (show ∀ _ : Nat, T _ _ _ _ _; intro _) | (show T _ _ _ _ _; refine T_meet () trivial ⟨rfl, ?_, trivial⟩ (Hle.refl _)))
            refine congrArg (fun q => some (Value.bool q)) ?_
            rw [hfb]; simp [h4] at h6
          · repeat' (first | refine d1 ?_ | refine dd ?_ | (show T _ (.ops _ (_ :: _) :: _) _ _ _; first | refine T_loadA rfl rfl rfl rfl rfl (rdOwn (vs := t.cells) (fun j u hu => by rw [Nat.zero_add]; exact hu)) rfl ?_ | refine T_call rfl rfl rfl rfl rfl (fun w hw => isWordTok_spec t (by omega) w) ?_ | refine T_callC rfl rfl rfl rfl rfl rfl rfl (fun hg w hw => isWordTok_spec t (by omega) w) ?_) | (show T _ (.run _ _ (_ :: _) _ _ :: _) _ _ _; first | refine rc rfl rfl rfl rfl rfl rfl rfl (fun w hw => isWordTok_spec t (by omega) w) ?_ | refine rcG rfl rfl rfl rfl rfl rfl rfl rfl rfl (fun hg w hw => isWordTok_spec t (by omega) w) ?_) | (show ∀ _ : Nat, T _ _ _ _ _; intro _) | (show T _ _ _ _ _; refine T_meet () trivial ⟨rfl, ?_, trivial⟩ (Hle.refl _)))
            refine congrArg (fun q => some (Value.bool q)) ?_
            rw [hfb]; simp_all
      · rintro ⟨⟩ _
        repeat' (first | refine d1 ?_ | refine dd ?_ | (show ∀ _ : Nat, T _ _ _ _ _; intro _))
        refine T_if rfl (fun h5 => ?_) (fun h5 => ?_)
        · repeat' (first | refine d1 ?_ | refine dd ?_ | (show ∀ _ : Nat, T _ _ _ _ _; intro _) | (show T _ (.code .ret :: _) _ _ _; refine T_retV [] rfl (Hle.none _) ⟨?_, rfl⟩))
          unfold tokE; rw [if_neg e1, if_neg e2, if_pos h5]; rfl
        have e3 : ¬ formBad t = true := by rw [h5]; simp
        repeat' (first | refine d1 ?_ | refine dd ?_ | (show ∀ _ : Nat, T _ _ _ _ _; intro _))
        refine T_if rfl (fun h6 => ?_) (fun h6 => ?_)
        · repeat' (first | refine d1 ?_ | refine dd ?_ | (show ∀ _ : Nat, T _ _ _ _ _; intro _) | (show T _ (.code .ret :: _) _ _ _; refine T_retV [] rfl (Hle.none _) ⟨?_, rfl⟩))
          simp only [decide_eq_true_eq] at h6
          unfold tokE; rw [if_neg e1, if_neg e2, if_neg e3, if_pos h6]; rfl
        simp only [decide_eq_false_iff_not] at h6
        repeat' (first | refine d1 ?_ | refine dd ?_ | (show T _ (.ops _ (_ :: _) :: _) _ _ _; first | refine T_call rfl rfl rfl rfl rfl (fun w hw => namedPrg_spec _ (by omega) w) ?_ | refine T_callC rfl rfl rfl rfl rfl rfl rfl (fun hg w hw => namedPrg_spec _ (by omega) w) ?_) | (show T _ (.run _ _ (_ :: _) _ _ :: _) _ _ _; first | refine rc rfl rfl rfl rfl rfl rfl rfl (fun w hw => namedPrg_spec _ (by omega) w) ?_ | refine rcG rfl rfl rfl rfl rfl rfl rfl rfl rfl (fun hg w hw => namedPrg_spec _ (by omega) w) ?_) | (show ∀ _ : Nat, T _ _ _ _ _; intro _))
        refine T_if rfl (fun h7 => ?_) (fun h7 => ?_)
        · repeat' (first | refine d1 ?_ | refine dd ?_ | (show ∀ _ : Nat, T _ _ _ _ _; intro _) | (show T _ (.code .ret :: _) _ _ _; refine T_retV [] rfl (Hle.none _) ⟨?_, rfl⟩))
          unfold tokE; rw [if_neg e1, if_neg e2, if_neg e3, if_neg h6, if_pos h7]; rfl
        · repeat' (first | refine d1 ?_ | refine dd ?_ | (show ∀ _ : Nat, T _ _ _ _ _; intro _) | (show T _ (.code .ret :: _) _ _ _; refine T_retV [] rfl (Hle.none _) ⟨?_, rfl⟩))
          unfold tokE; rw [if_neg e1, if_neg e2, if_neg e3, if_neg h6, if_neg (by rw [h7]; simp)]; rfl
    · skip
      show T _ [_, _, _, _, _] _ _ _
      refine T_cutAt 2 (fun _ : Unit => [(1, .pointer (some ⟨b, 0, none⟩)), (28, .bool (formBad t))]) (fun _ => [blk b t.cells 27]) (fun _ => True) rfl ?_ ?_
      · have hfb : formBad t = (!isWordB t.text || decide (t.norm = ByteArray.mk #[]) || decide ((64 : Int) < t.norm.size) || !normB t.norm) := by unfold formBad; rw [if_neg (by rw [h3]; simp), if_neg (by rw [h4]; simp)]
        repeat' (first | refine d1 ?_ | refine dd ?_ | (show T _ (.ops _ (_ :: _) :: _) _ _ _; first | refine T_call rfl rfl rfl rfl rfl (fun w hw => isWordPrg_spec _ w) ?_ | refine T_callC rfl rfl rfl rfl rfl rfl rfl (fun hg w hw => isWordPrg_spec _ w) ?_) | (show T _ (.run _ _ (_ :: _) _ _ :: _) _ _ _; first | refine rc rfl rfl rfl rfl rfl rfl rfl (fun w hw => isWordPrg_spec _ w) ?_ | refine rcG rfl rfl rfl rfl rfl rfl rfl rfl rfl (fun hg w hw => isWordPrg_spec _ w) ?_) | (show ∀ _ : Nat, T _ _ _ _ _; intro _))
        refine T_if rfl (fun h5 => ?_) (fun h5 => ?_)
        · repeat' (first | refine d1 ?_ | refine dd ?_ | (show ∀ _ : Nat, T _ _ _ _ _; intro _) | (show T _ _ _ _ _; refine T_meet () trivial ⟨rfl, ?_, trivial⟩ (Hle.refl _)))
          refine congrArg (fun q => some (Value.bool q)) ?_
          rw [hfb]; rw [h5]; rfl
        · repeat' (first | refine d1 ?_ | refine dd ?_ | (show T _ (.ops _ (_ :: _) :: _) _ _ _; first | refine T_loadA rfl rfl rfl rfl rfl (rdOwn (vs := t.cells) (fun j u hu => by rw [Nat.zero_add]; exact hu)) rfl ?_ | refine T_call rfl rfl rfl rfl rfl (fun w hw => isWordTok_spec t (by omega) w) ?_ | refine T_callC rfl rfl rfl rfl rfl rfl rfl (fun hg w hw => isWordTok_spec t (by omega) w) ?_ | refine T_call rfl rfl rfl rfl rfl (fun w hw => normPrg_spec _ (by omega) w) ?_ | refine T_callC rfl rfl rfl rfl rfl rfl rfl (fun hg w hw => normPrg_spec _ (by omega) w) ?_) | (show T _ (.run _ _ (_ :: _) _ _ :: _) _ _ _; first | refine rc rfl rfl rfl rfl rfl rfl rfl (fun w hw => isWordTok_spec t (by omega) w) ?_ | refine rcG rfl rfl rfl rfl rfl rfl rfl rfl rfl (fun hg w hw => isWordTok_spec t (by omega) w) ?_ | refine rc rfl rfl rfl rfl rfl rfl rfl (fun w hw => normPrg_spec _ (by omega) w) ?_ | refine rcG rfl rfl rfl rfl rfl rfl rfl rfl rfl (fun hg w hw => normPrg_spec _ (by omega) w) ?_) | (show ∀ _ : Nat, T _ _ _ _ _; intro _))
          refine T_if rfl (fun h6 => ?_) (fun h6 => ?_)
          · repeat' (first | refine d1 ?_ | refine dd ?_ | (show ∀ _ : Nat, T _ _ _ _ _; intro _) | (show T _ _ _ _ _; refine T_meet () trivial ⟨rfl, ?_, trivial⟩ (Hle.refl _)))
            refine congrArg (fun q => some (Value.bool q)) ?_
            rw [hfb, h3, h4, lt_le64]; rw [h3, h4] at h6; exact word_case1 h5 h6
          · repeat' (first | refine d1 ?_ | refine dd ?_ | (show T _ (.ops _ (_ :: _) :: _) _ _ _; first | refine T_loadA rfl rfl rfl rfl rfl (rdOwn (vs := t.cells) (fun j u hu => by rw [Nat.zero_add]; exact hu)) rfl ?_ | refine T_call rfl rfl rfl rfl rfl (fun w hw => isWordTok_spec t (by omega) w) ?_ | refine T_callC rfl rfl rfl rfl rfl rfl rfl (fun hg w hw => isWordTok_spec t (by omega) w) ?_) | (show T _ (.run _ _ (_ :: _) _ _ :: _) _ _ _; first | refine rc rfl rfl rfl rfl rfl rfl rfl (fun w hw => isWordTok_spec t (by omega) w) ?_ | refine rcG rfl rfl rfl rfl rfl rfl rfl rfl rfl (fun hg w hw => isWordTok_spec t (by omega) w) ?_) | (show ∀ _ : Nat, T _ _ _ _ _; intro _) | (show T _ _ _ _ _; refine T_meet () trivial ⟨rfl, ?_, trivial⟩ (Hle.refl _)))
            refine congrArg (fun q => some (Value.bool q)) ?_
            rw [hfb, h3, h4, lt_le64]; rw [h3, h4] at h6; exact word_case2 h5 h6
      · rintro ⟨⟩ _
        repeat' (first | refine d1 ?_ | refine dd ?_ | (show ∀ _ : Nat, T _ _ _ _ _; intro _))
        refine T_if rfl (fun h5 => ?_) (fun h5 => ?_)
        · repeat' (first | refine d1 ?_ | refine dd ?_ | (show ∀ _ : Nat, T _ _ _ _ _; intro _) | (show T _ (.code .ret :: _) _ _ _; refine T_retV [] rfl (Hle.none _) ⟨?_, rfl⟩))
          unfold tokE; rw [if_neg e1, if_neg e2, if_pos h5]; rfl
        have e3 : ¬ formBad t = true := by rw [h5]; simp
        repeat' (first | refine d1 ?_ | refine dd ?_ | (show ∀ _ : Nat, T _ _ _ _ _; intro _))
        refine T_if rfl (fun h6 => ?_) (fun h6 => ?_)
        · repeat' (first | refine d1 ?_ | refine dd ?_ | (show ∀ _ : Nat, T _ _ _ _ _; intro _) | (show T _ (.code .ret :: _) _ _ _; refine T_retV [] rfl (Hle.none _) ⟨?_, rfl⟩))
          simp only [decide_eq_true_eq] at h6
          unfold tokE; rw [if_neg e1, if_neg e2, if_neg e3, if_pos h6]; rfl
        simp only [decide_eq_false_iff_not] at h6
        repeat' (first | refine d1 ?_ | refine dd ?_ | (show T _ (.ops _ (_ :: _) :: _) _ _ _; first | refine T_call rfl rfl rfl rfl rfl (fun w hw => namedPrg_spec _ (by omega) w) ?_ | refine T_callC rfl rfl rfl rfl rfl rfl rfl (fun hg w hw => namedPrg_spec _ (by omega) w) ?_) | (show T _ (.run _ _ (_ :: _) _ _ :: _) _ _ _; first | refine rc rfl rfl rfl rfl rfl rfl rfl (fun w hw => namedPrg_spec _ (by omega) w) ?_ | refine rcG rfl rfl rfl rfl rfl rfl rfl rfl rfl (fun hg w hw => namedPrg_spec _ (by omega) w) ?_) | (show ∀ _ : Nat, T _ _ _ _ _; intro _))
        refine T_if rfl (fun h7 => ?_) (fun h7 => ?_)
        · repeat' (first | refine d1 ?_ | refine dd ?_ | (show ∀ _ : Nat, T _ _ _ _ _; intro _) | (show T _ (.code .ret :: _) _ _ _; refine T_retV [] rfl (Hle.none _) ⟨?_, rfl⟩))
          unfold tokE; rw [if_neg e1, if_neg e2, if_neg e3, if_neg h6, if_pos h7]; rfl
        · repeat' (first | refine d1 ?_ | refine dd ?_ | (show ∀ _ : Nat, T _ _ _ _ _; intro _) | (show T _ (.code .ret :: _) _ _ _; refine T_retV [] rfl (Hle.none _) ⟨?_, rfl⟩))
          unfold tokE; rw [if_neg e1, if_neg e2, if_neg e3, if_neg h6, if_neg (by rw [h7]; simp)]; rfl
end Go.Proofs.YtiglobijdegjdaaDoor
