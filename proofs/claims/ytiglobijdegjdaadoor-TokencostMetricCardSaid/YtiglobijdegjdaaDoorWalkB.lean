/- Walks: a token, by the reference. -/
import Derived.Test.YtiglobijdegjdaaDoorWalkA
import Derived.Test.YtiglobijdegjdaaDoorSpecB
namespace Go.Proofs.YtiglobijdegjdaaDoor
open Go.RowKit Go.Shelf Go.Proofs
set_option maxRecDepth 100000
set_option maxHeartbeats 1000000

theorem Calls.spec {P : Program} {f : FuncId} {args : List Value} {w : World} {v : Value} (he : Enters P f) (h : Calls P f args.toArray w fun e w' => e = .returned v ∧ w' = w) : Spec P f args w (fun u A => u = v ∧ A = []) :=
  ⟨he, h.mono fun _ _ ⟨h1, h2⟩ => ⟨v, [], h1, ⟨rfl, rfl⟩, by rw [h2]; exact Below.refl _ _, Sep.nil _ _⟩⟩
theorem itoa_spec (i : Nat) (hi : i < 100) (w : World) : Spec Tryd.prog 64 [.int .i64 (i : Int)] w (fun v A => v = .string ⟨(Lib.decDigits i).toArray⟩ ∧ A = []) :=
  Calls.spec (enters_of rfl rfl rfl) (Tryd.strconv_Itoa_small i hi w)

theorem gappedRef_spec (s : ByteArray) (w : World) : Spec Tryd.prog 45 [.string s] w (fun v A => v = .bool (gappedB s) ∧ A = []) := by
  refine spec_of sg Tryd.func45 rfl rfl rfl ?_
  repeat' (first | refine d1 ?_ | refine dd ?_ | (show ∀ _ : Nat, T _ _ _ _ _; intro _))
  refine T_loop (fun k : Nat => [(0, .string s), (3, .int .i64 k)]) (fun _ => []) (fun k => (1 ≤ k ∧ k ≤ 65) ∧ ∀ n, 1 ≤ n → n < k → s ≠ gapStr n) (fun k => 65 - k) 1 ⟨by omega, fun n h => by omega⟩ ⟨rfl, rfl, trivial⟩ (Hle.refl _) ?_
  rintro k ⟨hk, hn⟩
  repeat' (first | refine d1 ?_ | refine dd ?_ | (show ∀ _ : Nat, T _ _ _ _ _; intro _))
  refine T_if rfl (fun h => ?_) (fun h => ?_)
  · simp only [decide_eq_true_eq] at h
    have hsz := decDigits_len k (by omega)
    repeat' (first | refine d1 ?_ | refine dd ?_ | (show T _ (.ops _ (_ :: _) :: _) _ _ _; first | refine T_call rfl rfl rfl rfl rfl (fun w hw => itoa_spec k (by omega) w) ?_ | refine T_callC rfl rfl rfl rfl rfl rfl rfl (fun hg w hw => itoa_spec k (by omega) w) ?_ | refine T_vc rfl rfl rfl rfl rfl (by simp [ByteArray.size]; omega) ?_) | (show T _ (.run _ _ (_ :: _) _ _ :: _) _ _ _; first | refine rc rfl rfl rfl rfl rfl rfl rfl (fun w hw => itoa_spec k (by omega) w) ?_ | refine rcG rfl rfl rfl rfl rfl rfl rfl rfl rfl (fun hg w hw => itoa_spec k (by omega) w) ?_) | (show ∀ _ : Nat, T _ _ _ _ _; intro _))
    refine T_if rfl (fun h2 => ?_) (fun h2 => ?_)
    · simp only [decide_eq_true_eq] at h2
      repeat' (first | refine d1 ?_ | refine dd ?_ | (show ∀ _ : Nat, T _ _ _ _ _; intro _) | (show T _ (.code .ret :: _) _ _ _; refine T_retV [] rfl (Hle.refl _) ⟨congrArg Value.bool (gappedB_true (by omega) hk.1 h2).symm, rfl⟩))
    · simp only [decide_eq_false_iff_not] at h2
      repeat' (first | refine d1 ?_ | refine dd ?_ | (show ∀ _ : Nat, T _ _ _ _ _; intro _))
      refine T_back (k + 1) ⟨by omega, fun n h3 h4 => ?_⟩ (by omega) ⟨rfl, rfl, trivial⟩ (Hle.refl _)
      rcases Nat.lt_or_ge n k with h5 | h5
      · exact hn n h3 h5
      · rw [show n = k by omega]; exact h2
  · simp only [decide_eq_false_iff_not] at h
    repeat' (first | refine d1 ?_ | refine dd ?_ | (show ∀ _ : Nat, T _ _ _ _ _; intro _) | (show T _ (.code .ret :: _) _ _ _; refine T_retV [] rfl (Hle.refl _) ⟨congrArg Value.bool (gappedB_false (fun n h1 h2 => hn n h2 (by omega))).symm, rfl⟩))

theorem hasRef15_spec (t : Tok) (n : Int) (hn : n = 2 ∨ n = 8) (h0 : 0 ≤ t.flags ∧ t.flags ≤ 31) (w : World) : Spec Tryd.prog 44 [t.val, .int .i64 n] w (fun v A => v = .bool (hasN t.flags n) ∧ A = []) := by
  refine spec_of sg Tryd.func44 rfl rfl rfl ?_
  rcases hn with rfl | rfl
  · repeat' (first | (show T _ (.ops _ (⟨_, .box _ _, _, _, _, _⟩ :: _) :: _) _ _ _; refine T_op (OpT.box (cs := t.cells) rfl rfl rfl rfl rfl rfl rfl (fun _ => ?_))) | refine d1 ?_ | refine dd ?_ | (show ∀ _ : Nat, T _ _ _ _ _; intro _) | (show T _ (.code .ret :: _) _ _ _; refine T_retV [] rfl (Hle.none _) ⟨rfl, rfl⟩))
  · repeat' (first | (show T _ (.ops _ (⟨_, .box _ _, _, _, _, _⟩ :: _) :: _) _ _ _; refine T_op (OpT.box (cs := t.cells) rfl rfl rfl rfl rfl rfl rfl (fun _ => ?_))) | refine d1 ?_ | refine dd ?_ | (show ∀ _ : Nat, T _ _ _ _ _; intro _) | (show T _ (.code .ret :: _) _ _ _; refine T_retV [] rfl (Hle.none _) ⟨rfl, rfl⟩))
theorem hasRef17_spec (t : Tok) (n : Int) (hn : n = 2 ∨ n = 8) (h0 : 0 ≤ t.flags ∧ t.flags ≤ 31) (w : World) : Spec Tryd.prog 50 [t.val, .int .i64 n] w (fun v A => v = .bool (hasN t.flags n) ∧ A = []) := by
  refine spec_of sg Tryd.func50 rfl rfl rfl ?_
  rcases hn with rfl | rfl
  · repeat' (first | (show T _ (.ops _ (⟨_, .box _ _, _, _, _, _⟩ :: _) :: _) _ _ _; refine T_op (OpT.box (cs := t.cells) rfl rfl rfl rfl rfl rfl rfl (fun _ => ?_))) | refine d1 ?_ | refine dd ?_ | (show ∀ _ : Nat, T _ _ _ _ _; intro _) | (show T _ (.code .ret :: _) _ _ _; refine T_retV [] rfl (Hle.none _) ⟨rfl, rfl⟩))
  · repeat' (first | (show T _ (.ops _ (⟨_, .box _ _, _, _, _, _⟩ :: _) :: _) _ _ _; refine T_op (OpT.box (cs := t.cells) rfl rfl rfl rfl rfl rfl rfl (fun _ => ?_))) | refine d1 ?_ | refine dd ?_ | (show ∀ _ : Nat, T _ _ _ _ _; intro _) | (show T _ (.code .ret :: _) _ _ _; refine T_retV [] rfl (Hle.none _) ⟨rfl, rfl⟩))

theorem tokRef_spec (t : Tok) (w : World) : Spec Tryd.prog 31 [t.val] w (fun v A => v = .int .i64 (tokE t) ∧ A = []) := by
  refine spec_of sg Tryd.func31 rfl rfl rfl ?_
  repeat' (first | (show T _ (.ops _ (⟨_, .box _ _, _, _, _, _⟩ :: _) :: _) _ _ _; refine T_op (OpT.box (cs := t.cells) rfl rfl rfl rfl rfl rfl rfl (fun _ => ?_))) | refine d1 ?_ | refine dd ?_ | (show ∀ _ : Nat, T _ _ _ _ _; intro _))
  rename_i b
  refine T_if rfl (fun h => ?_) (fun h => ?_)
  · repeat' (first | refine d1 ?_ | refine dd ?_ | (show ∀ _ : Nat, T _ _ _ _ _; intro _) | (show T _ (.code .ret :: _) _ _ _; refine T_retV [] rfl (Hle.none _) ⟨?_, rfl⟩))
    simp only [Bool.or_eq_true, decide_eq_true_eq] at h
    unfold tokE; rw [if_pos h]; rfl
  simp only [Bool.or_eq_false_iff, decide_eq_false_iff_not] at h
  refine T_draw 1000 [blk b t.cells 27] ?_
  refine T_dval 0 rfl (by kernel_rfl) (by kernel_rfl) (by kernel_rfl) (by kernel_rfl) (by kernel_rfl) rfl rfl (by first | exact Val.pure rfl | exact Val.vc rfl (fun hg => by first | omega | (simp only [inK]; omega) | exact True.intro | assumption) | exact Val.load rfl (fun _ => rdOwn1 rfl) | exact Val.loadA rfl (fun _ => rdAll) rfl) rfl rfl rfl (by first | exact Hle.refl _ | exact Hle.none _) ?_
  refine T_dval 2 rfl (by kernel_rfl) (by kernel_rfl) (by kernel_rfl) (by kernel_rfl) (by kernel_rfl) rfl rfl (by first | exact Val.pure rfl | exact Val.vc rfl (fun hg => by first | omega | (simp only [inK]; omega) | exact True.intro | assumption) | exact Val.load rfl (fun _ => rdOwn1 rfl) | exact Val.loadA rfl (fun _ => rdAll) rfl) rfl rfl rfl (by first | exact Hle.refl _ | exact Hle.none _) ?_
  refine T_dop 1 (by kernel_rfl) rfl (OpT.callV rfl rfl rfl rfl rfl (fun w hw => hasRef15_spec t 2 (.inl rfl) (by omega) w) ⟨fun _ => (by first | exact Hle.refl _ | exact Hle.none _), ?_⟩)
  refine T_dop 3 (by kernel_rfl) rfl (OpT.callV rfl rfl rfl rfl rfl (fun w hw => hasRef15_spec t 8 (.inr rfl) (by omega) w) ⟨fun _ => (by first | exact Hle.refl _ | exact Hle.none _), ?_⟩)
  refine T_dval 4 rfl (by kernel_rfl) (by kernel_rfl) (by kernel_rfl) (by kernel_rfl) (by kernel_rfl) rfl rfl (by first | exact Val.pure rfl | exact Val.vc rfl (fun hg => by first | omega | (simp only [inK]; omega) | exact True.intro | assumption) | exact Val.load rfl (fun _ => rdOwn1 rfl) | exact Val.loadA rfl (fun _ => rdAll) rfl) rfl rfl rfl (by first | exact Hle.refl _ | exact Hle.none _) ?_
  refine T_dval 5 rfl (by kernel_rfl) (by kernel_rfl) (by kernel_rfl) (by kernel_rfl) (by kernel_rfl) rfl rfl (by first | exact Val.pure rfl | exact Val.vc rfl (fun hg => by first | omega | (simp only [inK]; omega) | exact True.intro | assumption) | exact Val.load rfl (fun _ => rdOwn1 rfl) | exact Val.loadA rfl (fun _ => rdAll) rfl) rfl rfl rfl (by first | exact Hle.refl _ | exact Hle.none _) ?_
  refine T_dend (by kernel_rfl) ?_
  have e1 : ¬ (t.flags < 0 ∨ 31 < t.flags) := by omega
  repeat' (first | refine d1 ?_ | refine dd ?_ | (show ∀ _ : Nat, T _ _ _ _ _; intro _))
  refine T_if rfl (fun h2 => ?_) (fun h2 => ?_)
  · repeat' (first | refine d1 ?_ | refine dd ?_ | (show ∀ _ : Nat, T _ _ _ _ _; intro _) | (show T _ (.code .ret :: _) _ _ _; refine T_retV [] rfl (Hle.none _) ⟨?_, rfl⟩))
    unfold tokE; rw [if_neg e1, if_pos h2]; rfl
  have e2 : ¬ ((hasN t.flags 2 && hasN t.flags 8) = true) := by rw [h2]; simp
  show T _ [_, _, _, _] _ _ _
  refine T_cutAt 3 (fun _ : Unit => [(1, .pointer (some ⟨b, 0, none⟩))]) (fun _ => [blk b t.cells 27]) (fun _ => formBad t = false) rfl ?_ ?_
  · have done : formBad t = true → tokE t = 11 := fun hb => by unfold tokE; rw [if_neg e1, if_neg e2, if_pos hb]
    repeat' (first | refine d1 ?_ | refine dd ?_ | (show ∀ _ : Nat, T _ _ _ _ _; intro _))
    refine T_if rfl (fun h3 => ?_) (fun h3 => ?_)
    · repeat' (first | refine d1 ?_ | refine dd ?_ | (show T _ (.ops _ (_ :: _) :: _) _ _ _; first | refine T_call rfl rfl rfl rfl rfl (fun w hw => gappedRef_spec _ w) ?_ | refine T_callC rfl rfl rfl rfl rfl rfl rfl (fun hg w hw => gappedRef_spec _ w) ?_) | (show T _ (.run _ _ (_ :: _) _ _ :: _) _ _ _; first | refine rc rfl rfl rfl rfl rfl rfl rfl (fun w hw => gappedRef_spec _ w) ?_ | refine rcG rfl rfl rfl rfl rfl rfl rfl rfl rfl (fun hg w hw => gappedRef_spec _ w) ?_) | (show ∀ _ : Nat, T _ _ _ _ _; intro _))
      have hfb : formBad t = (!gappedB t.text || !decide (t.norm = t.text)) := by unfold formBad; rw [if_pos h3]
      refine T_if rfl (fun h4 => ?_) (fun h4 => ?_)
      · repeat' (first | refine d1 ?_ | refine dd ?_ | (show ∀ _ : Nat, T _ _ _ _ _; intro _) | (show T _ (.code .ret :: _) _ _ _; refine T_retV [] rfl (Hle.none _) ⟨congrArg (Value.int .i64) (done (hfb.trans h4)).symm, rfl⟩))
      · repeat' (first | refine d1 ?_ | refine dd ?_ | (show ∀ _ : Nat, T _ _ _ _ _; intro _) | (show T _ _ _ _ _; refine T_meet () (hfb.trans h4) ⟨rfl, trivial⟩ (Hle.refl _)))
    · have e3 : ¬ hasN t.flags 2 = true := by rw [h3]; simp
      repeat' (first | refine d1 ?_ | refine dd ?_ | (show ∀ _ : Nat, T _ _ _ _ _; intro _))
      refine T_if rfl (fun h4 => ?_) (fun h4 => ?_)
      · repeat' (first | refine d1 ?_ | refine dd ?_ | (show T _ (.ops _ (_ :: _) :: _) _ _ _; first | refine T_call rfl rfl rfl rfl rfl (fun w hw => kindRef_spec _ w) ?_ | refine T_callC rfl rfl rfl rfl rfl rfl rfl (fun hg w hw => kindRef_spec _ w) ?_) | (show T _ (.run _ _ (_ :: _) _ _ :: _) _ _ _; first | refine rc rfl rfl rfl rfl rfl rfl rfl (fun w hw => kindRef_spec _ w) ?_ | refine rcG rfl rfl rfl rfl rfl rfl rfl rfl rfl (fun hg w hw => kindRef_spec _ w) ?_) | (show ∀ _ : Nat, T _ _ _ _ _; intro _))
        have hfb : formBad t = (!decide ((t.text.size : Int) = 1) || (!decide (kAt t.text 0 = 5) && !decide (kAt t.text 0 = 4)) || !decide (t.norm = t.text)) := by unfold formBad; rw [if_neg e3, if_pos h4]
        refine T_if rfl (fun h5 => ?_) (fun h5 => ?_)
        · repeat' (first | refine d1 ?_ | refine dd ?_ | (show ∀ _ : Nat, T _ _ _ _ _; intro _) | (show T _ (.code .ret :: _) _ _ _; refine T_retV [] rfl (Hle.none _) ⟨congrArg (Value.int .i64) (done (hfb.trans h5)).symm, rfl⟩))
        · repeat' (first | refine d1 ?_ | refine dd ?_ | (show ∀ _ : Nat, T _ _ _ _ _; intro _) | (show T _ _ _ _ _; refine T_meet () (hfb.trans h5) ⟨rfl, trivial⟩ (Hle.refl _)))
      · have e4 : ¬ hasN t.flags 8 = true := by rw [h4]; simp
        have hfb : formBad t = (!isWordB t.text || decide (t.norm = ByteArray.mk #[]) || decide ((64 : Int) < t.norm.size) || !normB t.norm) := by unfold formBad; rw [if_neg e3, if_neg e4]
        repeat' (first | refine d1 ?_ | refine dd ?_ | (show T _ (.ops _ (_ :: _) :: _) _ _ _; first | refine T_call rfl rfl rfl rfl rfl (fun w hw => isWordRef_spec _ w) ?_ | refine T_callC rfl rfl rfl rfl rfl rfl rfl (fun hg w hw => isWordRef_spec _ w) ?_) | (show T _ (.run _ _ (_ :: _) _ _ :: _) _ _ _; first | refine rc rfl rfl rfl rfl rfl rfl rfl (fun w hw => isWordRef_spec _ w) ?_ | refine rcG rfl rfl rfl rfl rfl rfl rfl rfl rfl (fun hg w hw => isWordRef_spec _ w) ?_) | (show ∀ _ : Nat, T _ _ _ _ _; intro _))
        refine T_if rfl (fun h5 => ?_) (fun h5 => ?_)
        · repeat' (first | refine d1 ?_ | refine dd ?_ | (show ∀ _ : Nat, T _ _ _ _ _; intro _) | (show T _ (.code .ret :: _) _ _ _; refine T_retV [] rfl (Hle.none _) ⟨congrArg (Value.int .i64) (done (hfb.trans ?_)).symm, rfl⟩))
          rw [show (!isWordB t.text || decide (t.norm = ByteArray.mk #[]) || decide ((64 : Int) < t.norm.size)) = true from h5]; rfl
        have h6 : t.norm.size ≤ 64 := by
          simp only [Bool.or_eq_false_iff, decide_eq_false_iff_not] at h5
          have := h5.2
          omega
        repeat' (first | refine d1 ?_ | refine dd ?_ | (show ∀ _ : Nat, T _ _ _ _ _; intro _))
        refine T_loop (fun k : Nat => [(1, .pointer (some ⟨b, 0, none⟩)), (5, .int .i64 k)]) (fun _ => [blk b t.cells 27]) (fun k => k ≤ t.norm.size ∧ ∀ j, j < k → wordlyK (kAt t.norm j) = true) (fun k => t.norm.size - k) 0 ⟨by omega, fun j h => by omega⟩ ⟨rfl, rfl, trivial⟩ (Hle.refl _) ?_
        rintro k ⟨hk, hok⟩
        repeat' (first | refine d1 ?_ | refine dd ?_ | (show ∀ _ : Nat, T _ _ _ _ _; intro _))
        refine T_if rfl (fun h7 => ?_) (fun h7 => ?_)
        · simp only [decide_eq_true_eq] at h7
          repeat' (first | refine d1 ?_ | refine dd ?_ | (show T _ (.ops _ (_ :: _) :: _) _ _ _; first | refine T_call rfl rfl rfl rfl rfl (fun w hw => wordlyRef_spec _ w) ?_ | refine T_callC rfl rfl rfl rfl rfl rfl rfl (fun hg w hw => wordlyRef_spec _ w) ?_) | (show T _ (.run _ _ (_ :: _) _ _ :: _) _ _ _; first | refine rc rfl rfl rfl rfl rfl rfl rfl (fun w hw => wordlyRef_spec _ w) ?_ | refine rcG rfl rfl rfl rfl rfl rfl rfl rfl rfl (fun hg w hw => wordlyRef_spec _ w) ?_) | (show ∀ _ : Nat, T _ _ _ _ _; intro _))
          refine T_if rfl (fun h8 => ?_) (fun h8 => ?_)
          · repeat' (first | refine d1 ?_ | refine dd ?_ | (show ∀ _ : Nat, T _ _ _ _ _; intro _) | (show T _ (.code .ret :: _) _ _ _; refine T_retV [] rfl (Hle.none _) ⟨congrArg (Value.int .i64) (done (hfb.trans ?_)).symm, rfl⟩))
            rw [Bool.not_eq_true'] at h8
            have : normB t.norm = false := by
              unfold normB
              rw [decide_eq_false_iff_not]
              intro hh
              have h9 := hh k (by omega)
              unfold kAt at h9
              rw [h8] at h9; cases h9
            rw [this]; simp
          · rw [Bool.not_eq_false'] at h8
            repeat' (first | refine d1 ?_ | refine dd ?_ | (show ∀ _ : Nat, T _ _ _ _ _; intro _))
            refine T_back (k + 1) ⟨by omega, fun j hj => ?_⟩ (by omega) ⟨rfl, rfl, trivial⟩ (Hle.refl _)
            rcases Nat.lt_or_ge j k with h9 | h9
            · exact hok j h9
            · rw [show j = k by omega]; exact h8
        · simp only [decide_eq_false_iff_not] at h7
          have h8 : normB t.norm = true := decide_eq_true (fun j hj => hok j (by omega))
          repeat' (first | refine d1 ?_ | refine dd ?_ | (show ∀ _ : Nat, T _ _ _ _ _; intro _) | (show T _ _ _ _ _; refine T_meet () (hfb.trans ?_) ⟨rfl, trivial⟩ (Hle.refl _)))
          rw [show (!isWordB t.text || decide (t.norm = ByteArray.mk #[]) || decide ((64 : Int) < t.norm.size)) = false from h5, h8]; rfl
  · rintro ⟨⟩ hfb
    have e3 : ¬ formBad t = true := by rw [hfb]; simp
    repeat' (first | refine d1 ?_ | refine dd ?_ | (show ∀ _ : Nat, T _ _ _ _ _; intro _))
    refine T_if rfl (fun h3 => ?_) (fun h3 => ?_)
    · repeat' (first | refine d1 ?_ | refine dd ?_ | (show ∀ _ : Nat, T _ _ _ _ _; intro _) | (show T _ (.code .ret :: _) _ _ _; refine T_retV [] rfl (Hle.none _) ⟨?_, rfl⟩))
      simp only [decide_eq_true_eq] at h3
      unfold tokE; rw [if_neg e1, if_neg e2, if_neg e3, if_pos h3]; rfl
    simp only [decide_eq_false_iff_not] at h3
    repeat' (first | refine d1 ?_ | refine dd ?_ | (show T _ (.ops _ (_ :: _) :: _) _ _ _; first | refine T_call rfl rfl rfl rfl rfl (fun w hw => namedRef_spec _ w) ?_ | refine T_callC rfl rfl rfl rfl rfl rfl rfl (fun hg w hw => namedRef_spec _ w) ?_) | (show T _ (.run _ _ (_ :: _) _ _ :: _) _ _ _; first | refine rc rfl rfl rfl rfl rfl rfl rfl (fun w hw => namedRef_spec _ w) ?_ | refine rcG rfl rfl rfl rfl rfl rfl rfl rfl rfl (fun hg w hw => namedRef_spec _ w) ?_) | (show ∀ _ : Nat, T _ _ _ _ _; intro _))
    refine T_if rfl (fun h4 => ?_) (fun h4 => ?_)
    · repeat' (first | refine d1 ?_ | refine dd ?_ | (show ∀ _ : Nat, T _ _ _ _ _; intro _) | (show T _ (.code .ret :: _) _ _ _; refine T_retV [] rfl (Hle.none _) ⟨?_, rfl⟩))
      unfold tokE; rw [if_neg e1, if_neg e2, if_neg e3, if_neg h3, if_pos h4]; rfl
    · repeat' (first | refine d1 ?_ | refine dd ?_ | (show ∀ _ : Nat, T _ _ _ _ _; intro _) | (show T _ (.code .ret :: _) _ _ _; refine T_retV [] rfl (Hle.none _) ⟨?_, rfl⟩))
      unfold tokE; rw [if_neg e1, if_neg e2, if_neg e3, if_neg h3, if_neg (by rw [h4]; simp)]; rfl
end Go.Proofs.YtiglobijdegjdaaDoor
