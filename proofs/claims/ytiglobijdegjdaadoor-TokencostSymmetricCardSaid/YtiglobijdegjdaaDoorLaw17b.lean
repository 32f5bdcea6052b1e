/- The law TokencostSymmetric holds for whatever costs and tokens: the tied card of its row. No condition beyond the row's own. -/
import Derived.Test.YtiglobijdegjdaaDoorWalkN
import Derived.Test.YtiglobijdegjdaaDoorLift
import Derived.Test.YtiglobijdegjdaaDoorCards
import Derived.Test.YtiglobijdegjdaaDoorTie
namespace Go.Proofs.YtiglobijdegjdaaDoor
open Go.RowKit Go.Shelf Go.ChangeShapes Go.WideShapes Go.Proofs
set_option maxRecDepth 100000
set_option maxHeartbeats 1000000

theorem symmetric_spec (c : Costs) (x y : Tok) (w : World) (hs : Std w) : Spec Tryd.prog 4 [c.val, x.val, y.val] w (fun v A => v = .bool true ∧ A = []) := by
  refine spec_of sg Tryd.func4 rfl rfl rfl ?_
  refine T_op (OpT.box (cs := c.cells) rfl rfl rfl rfl rfl rfl rfl (fun pc => ?_))
  refine T_op (OpT.box (cs := x.cells) rfl rfl rfl rfl rfl rfl rfl (fun pa => ?_))
  refine T_op (OpT.box (cs := y.cells) rfl rfl rfl rfl rfl rfl rfl (fun pb => ?_))
  repeat' (first | refine d1 ?_ | refine dd ?_ | (show T _ (.ops _ (_ :: _) :: _) _ _ _; first | refine T_call rfl rfl rfl rfl rfl (fun w hw => fine_spec c _ 2 _ [x, y] w (Src.own hw rfl) rfl (by omega)) ?_ | refine T_callC rfl rfl rfl rfl rfl rfl rfl (fun hg w hw => fine_spec c _ 2 _ [x, y] w (Src.own hw rfl) rfl (by omega)) ?_) | (show T _ (.run _ _ (_ :: _) _ _ :: _) _ _ _; first | refine rc rfl rfl rfl rfl rfl rfl rfl (fun w hw => fine_spec c _ 2 _ [x, y] w (Src.own hw rfl) rfl (by omega)) ?_ | refine rcG rfl rfl rfl rfl rfl rfl rfl rfl rfl (fun hg w hw => fine_spec c _ 2 _ [x, y] w (Src.own hw rfl) rfl (by omega)) ?_) | (show ∀ _ : Nat, T _ _ _ _ _; intro _))
  refine T_if rfl (fun h => ?_) (fun h => ?_)
  · repeat' (first | refine d1 ?_ | refine dd ?_ | (show T _ (.ops _ (_ :: _) :: _) _ _ _; first | refine T_call rfl rfl rfl rfl rfl (fun w hw => awake17_spec w (hs.cls hw)) ?_ | refine T_callC rfl rfl rfl rfl rfl rfl rfl (fun hg w hw => awake17_spec w (hs.cls hw)) ?_) | (show T _ (.run _ _ (_ :: _) _ _ :: _) _ _ _; first | refine rc rfl rfl rfl rfl rfl rfl rfl (fun w hw => awake17_spec w (hs.cls hw)) ?_ | refine rcG rfl rfl rfl rfl rfl rfl rfl rfl rfl (fun hg w hw => awake17_spec w (hs.cls hw)) ?_) | (show ∀ _ : Nat, T _ _ _ _ _; intro _) | (show T _ (.code .ret :: _) _ _ _; refine T_retV [] rfl (Hle.none _) ⟨rfl, rfl⟩))
  · obtain ⟨hc, _, h1, h2⟩ := fineB_ok (by simpa using h)
    have hx := (longT_small (h1 x (by simp))).1
    have hy := (longT_small (h1 y (by simp))).1
    have ex := h2 x (by simp)
    have ey := h2 y (by simp)
    have k1 := tokE_ok ex
    have k2 := tokE_ok ey
    have p1 : pairV c x y = (pairC c x y, 0) := by unfold pairV; rw [if_pos ⟨hc, ex, ey⟩]
    have p2 : pairV c y x = (pairC c x y, 0) := by unfold pairV; rw [if_pos ⟨hc, ey, ex⟩, pairC_swap]
    have b1 := pairC_bd hc x y
    obtain ⟨o1, o2⟩ := or_law x.flags y.flags k1.1 k2.1
    repeat' (first | refine d1 ?_ | refine dd ?_ | (show T _ (.ops _ (_ :: _) :: _) _ _ _; first | refine T_call rfl rfl rfl rfl rfl (fun w hw => pairTop_spec c x y hx hy w (hs.cls hw)) ?_ | refine T_callC rfl rfl rfl rfl rfl rfl rfl (fun hg w hw => pairTop_spec c x y hx hy w (hs.cls hw)) ?_ | refine T_call rfl rfl rfl rfl rfl (fun w hw => pairTop_spec c y x hy hx w (hs.cls hw)) ?_ | refine T_callC rfl rfl rfl rfl rfl rfl rfl (fun hg w hw => pairTop_spec c y x hy hx w (hs.cls hw)) ?_) | (show T _ (.run _ _ (_ :: _) _ _ :: _) _ _ _; first | refine rc rfl rfl rfl rfl rfl rfl rfl (fun w hw => pairTop_spec c x y hx hy w (hs.cls hw)) ?_ | refine rcG rfl rfl rfl rfl rfl rfl rfl rfl rfl (fun hg w hw => pairTop_spec c x y hx hy w (hs.cls hw)) ?_ | refine rc rfl rfl rfl rfl rfl rfl rfl (fun w hw => pairTop_spec c y x hy hx w (hs.cls hw)) ?_ | refine rcG rfl rfl rfl rfl rfl rfl rfl rfl rfl (fun hg w hw => pairTop_spec c y x hy hx w (hs.cls hw)) ?_) | (show ∀ _ : Nat, T _ _ _ _ _; intro _))
    rw [p1, p2]
    refine T_if rfl (fun h3 => ?_) (fun h3 => ?_)
    · exfalso
      simp only [Bool.or_eq_true, Bool.and_eq_true, Bool.not_eq_true', decide_eq_true_eq, decide_eq_false_iff_not, not_true_eq_false, false_or, or_false] at h3
      by_cases ht : x.text = y.text
      · have := pairC_self c x y ht
        omega
      · simp only [ht, false_and, or_false] at h3
        omega
    · repeat' (first | refine d1 ?_ | refine dd ?_ | (show ∀ _ : Nat, T _ _ _ _ _; intro _))
      refine T_if rfl (fun h4 => ?_) (fun h4 => ?_)
      · repeat' (first | refine d1 ?_ | refine dd ?_ | (show T _ (.ops _ (_ :: _) :: _) _ _ _; first | refine T_call rfl rfl rfl rfl rfl (fun w hw => awake17_spec w (hs.cls hw)) ?_ | refine T_callC rfl rfl rfl rfl rfl rfl rfl (fun hg w hw => awake17_spec w (hs.cls hw)) ?_) | (show T _ (.run _ _ (_ :: _) _ _ :: _) _ _ _; first | refine rc rfl rfl rfl rfl rfl rfl rfl (fun w hw => awake17_spec w (hs.cls hw)) ?_ | refine rcG rfl rfl rfl rfl rfl rfl rfl rfl rfl (fun hg w hw => awake17_spec w (hs.cls hw)) ?_) | (show ∀ _ : Nat, T _ _ _ _ _; intro _) | (show T _ (.code .ret :: _) _ _ _; refine T_retV [] rfl (Hle.none _) ⟨congrArg Value.bool ?_, rfl⟩))
        rw [o2] at h4
        simp only [Bool.or_eq_true, decide_eq_true_eq] at h4
        have := pairC_small hc x y h4
        simp [this]
      · repeat' (first | refine d1 ?_ | refine dd ?_ | (show T _ (.ops _ (_ :: _) :: _) _ _ _; first | refine T_call rfl rfl rfl rfl rfl (fun w hw => awake17_spec w (hs.cls hw)) ?_ | refine T_callC rfl rfl rfl rfl rfl rfl rfl (fun hg w hw => awake17_spec w (hs.cls hw)) ?_) | (show T _ (.run _ _ (_ :: _) _ _ :: _) _ _ _; first | refine rc rfl rfl rfl rfl rfl rfl rfl (fun w hw => awake17_spec w (hs.cls hw)) ?_ | refine rcG rfl rfl rfl rfl rfl rfl rfl rfl rfl (fun hg w hw => awake17_spec w (hs.cls hw)) ?_) | (show ∀ _ : Nat, T _ _ _ _ _; intro _) | (show T _ (.code .ret :: _) _ _ _; refine T_retV [] rfl (Hle.none _) ⟨congrArg Value.bool ?_, rfl⟩))
        rw [o2] at h4
        by_cases h5 : x.text = y.text
        · simp [h5]
        · have := pairC_great hc x y h5 (by intro h; rw [← Bool.not_eq_true] at h4; apply h4; simpa using h)
          simp [this]
theorem symmetric_met (os : Os) (args : Array Value) : laidMetH Tryd.prog Rows.tokencostSymmetricRow.laid ((World.doorLaid Tryd.prog 400 os).forCall (fun _ _ => 0) ⟨#[], args, []⟩).memory :=
  laidMetH_of_parts3 (fuel := 8) (laidMet_of_run' 8 (by kernel_rfl) (by kernel_rfl)) (by kernel_rfl) (by kernel_rfl)
theorem symmetric_lifted (os : Os) (started : os.Started) (H : Type) (enc : TypeId × Value → H) :
    ReturnsInHanded {} Tryd.checked os 4 .any (fun w args => (Rows.tokencostSymmetricSpec.pre enc Tryd.prog Tryd.f4 [] false w args ∧ laidMetH Tryd.prog Rows.tokencostSymmetricRow.laid w) ∧ sizedMet enc Tryd.prog Tryd.f4 (OpenSpec.ofChange Rows.tokencostSymmetricSpec) false w args)
      (Rows.tokencostSymmetricSpec.post enc Tryd.prog Tryd.f4 false true false false) := by
  refine returnsInHanded_of_change_and (C := Tryd.checked) (X := fun w _ => laidMetH Tryd.prog Rows.tokencostSymmetricRow.laid w) (fun _ _ _ hh h => h.of_heap hh) knob started (by kernel_rfl) Tryd.func4
    (ChangeSpec.witness_shaped (enc := enc) (C := Tryd.checked) (os := os) (X := fun w _ => laidMetH Tryd.prog Rows.tokencostSymmetricRow.laid w) false (World.doorLaid Tryd.prog 400 os) #[(⟨0, 0, 0, 0⟩ : Costs).val, (⟨.empty, .empty, .empty, 0, 0, .empty⟩ : Tok).val, (⟨.empty, .empty, .empty, 0, 0, .empty⟩ : Tok).val] 8 rfl (World.shaped_of_RefB (by kernel_rfl) (by kernel_rfl)) (by kernel_rfl) (by kernel_rfl) (by kernel_rfl) (symmetric_met os _)) ?_
  intro W base args ds gs before hval0 hW _ _ hL _
  have hval : ∀ (j : Nat) t v, Tryd.f4.params[j]? = some t → args[j]? = some v → Value.okWide Tryd.prog W .any base t v := hval0
  have hstd := std_of (show laidMetH Tryd.prog laids W from hL)
  have hW' := hW
  obtain ⟨p, q, hA0, hV, rfl, hfz, hnd⟩ := hW
  have hA : DataW.TrodAll enc Tryd.prog W 0 (fun _ => true) true Tryd.f4.params.toList args.toList ds p := hA0
  obtain ⟨v0, vs0, d0, ds0, p0, q0, e0, rfl, rfl, h0, hA⟩ := trodAll_cons hA
  obtain ⟨v1, vs1, d1, ds1, p1, q1, rfl, rfl, rfl, h1, hA⟩ := trodAll_cons hA
  obtain ⟨v2, vs2, d2, ds2, p2, q2, rfl, rfl, rfl, h2, hA⟩ := trodAll_cons hA
  obtain ⟨rfl, rfl, rfl⟩ := trodAll_nil hA
  have ea : args = #[v0, v1, v2] := Array.ext' e0
  subst ea
  obtain ⟨c, rfl⟩ := arg_costs (hval 0 _ v0 rfl rfl) h0
  obtain ⟨x, rfl⟩ := arg_tok (hval 1 _ v1 rfl rfl) h1
  obtain ⟨y, rfl⟩ := arg_tok (hval 2 _ v2 rfl rfl) h2
  refine (symmetric_spec c x y W hstd).calls.mono ?_
  rintro e W' ⟨v, A, rfl, ⟨rfl, _⟩, hb, _⟩
  exact ⟨_, rfl, law_post hW' rfl rfl laidOk (by intro t ht; simp only [show Tryd.f4.params.toList = [23, 27, 27] from rfl, List.mem_cons, List.mem_nil_iff, or_false] at ht; rcases ht with rfl | rfl | rfl <;> exact ⟨by kernel_rfl, of_decide_eq_true (by kernel_rfl)⟩) rfl Tryd.underlying4 hb⟩
theorem symmetric_holds : Rows.TokencostSymmetricSaid :=
  OpenClaim.holds_of_wide 4 Tryd.f4 rfl rfl rfl rfl rfl rfl rfl ⟨rfl, rfl, rfl, rfl, rfl⟩ rfl rfl rfl rfl rfl (by kernel_rfl) Tryd.func4 (by kernel_rfl)
    (of_decide_eq_true (by kernel_rfl)) (by unfold Func.isWrapper; first | (rw [if_pos (by decide +kernel)]; kernel_rfl) | (rw [if_neg (by decide +kernel)]; exact ⟨rfl, rfl⟩))
    (fun os started H enc _ => symmetric_lifted os started H enc)
theorem symmetric_card : Rows.TokencostSymmetricCardSaid :=
  Claim7.holds_tied_plain_at .later [] [.data, .data, .data, .sentinel, .sentinel] true (true, "28692782097a374b4e0f7a632efec21f45e145e988e45c574558877b0063dbc4") true
    symmetric_holds (fun _ h => by cases h) (by kernel_rfl) (fun _ h => by cases h) tokencostSymmetric_row_tie rfl ⟨rfl, rfl⟩ (by kernel_rfl) rfl
    (fun f fn hf hfn => by
      obtain rfl : f = 4 := Option.some.inj ((show Tryd.prog.funcNamed "apograph/apographlaw17.TokencostSymmetric" = some 4 by kernel_rfl).symm.trans hf) |>.symm
      obtain rfl : fn = Tryd.f4 := (Option.some.inj (Tryd.func4.symm.trans hfn)).symm
      exact ⟨by kernel_rfl, fun j t ht => by
        have ht' : [23, 27, 27][j]? = some t := by rw [Tryd.params4] at ht; simpa using ht
        have hm := List.mem_of_getElem? ht'
        simp only [List.mem_cons, List.mem_nil_iff, or_false] at hm
        rcases hm with rfl | rfl | rfl <;> exact (show Tryd.prog.wantsStandIn _ = false by kernel_rfl)⟩)
    (by kernel_rfl)
#print axioms symmetric_card
end Go.Proofs.YtiglobijdegjdaaDoor
