/- The law TokencostPairs holds for whatever costs and tokens: the tied card of its row. No condition beyond the row's own. -/
import Derived.Test.YtiglobijdegjdaaDoorLift
import Derived.Test.YtiglobijdegjdaaDoorCards
import Derived.Test.YtiglobijdegjdaaDoorTie
namespace Go.Proofs.YtiglobijdegjdaaDoor
open Go.RowKit Go.Shelf Go.ChangeShapes Go.WideShapes Go.Proofs
set_option maxRecDepth 100000
set_option maxHeartbeats 1000000

theorem tokencostPairs_spec (c : Costs) (x y : Tok) (w : World) (hs : Std w) : Spec Tryd.prog 3 [c.val, x.val, y.val] w (fun v A => v = .bool true ∧ A = []) := by
  refine spec_of sg Tryd.func3 rfl rfl rfl ?_
  refine T_op (OpT.box (cs := c.cells) rfl rfl rfl rfl rfl rfl rfl (fun pc => ?_))
  refine T_op (OpT.box (cs := x.cells) rfl rfl rfl rfl rfl rfl rfl (fun pa => ?_))
  refine T_op (OpT.box (cs := y.cells) rfl rfl rfl rfl rfl rfl rfl (fun pb => ?_))
  repeat' (first | refine d1 ?_ | refine dd ?_ | (show T _ (.ops _ (_ :: _) :: _) _ _ _; first | refine T_call rfl rfl rfl rfl rfl (fun w hw => great17_spec _ 2 _ [x, y] w (Src.own hw rfl) rfl (by omega)) ?_ | refine T_callC rfl rfl rfl rfl rfl rfl rfl (fun hg w hw => great17_spec _ 2 _ [x, y] w (Src.own hw rfl) rfl (by omega)) ?_) | (show T _ (.run _ _ (_ :: _) _ _ :: _) _ _ _; first | refine rc rfl rfl rfl rfl rfl rfl rfl (fun w hw => great17_spec _ 2 _ [x, y] w (Src.own hw rfl) rfl (by omega)) ?_ | refine rcG rfl rfl rfl rfl rfl rfl rfl rfl rfl (fun hg w hw => great17_spec _ 2 _ [x, y] w (Src.own hw rfl) rfl (by omega)) ?_) | (show ∀ _ : Nat, T _ _ _ _ _; intro _))
  refine T_if rfl (fun h => ?_) (fun h => ?_)
  · repeat' (first | refine d1 ?_ | refine dd ?_ | (show T _ (.ops _ (_ :: _) :: _) _ _ _; first | refine T_call rfl rfl rfl rfl rfl (fun w hw => awake17_spec w (hs.cls hw)) ?_ | refine T_callC rfl rfl rfl rfl rfl rfl rfl (fun hg w hw => awake17_spec w (hs.cls hw)) ?_) | (show T _ (.run _ _ (_ :: _) _ _ :: _) _ _ _; first | refine rc rfl rfl rfl rfl rfl rfl rfl (fun w hw => awake17_spec w (hs.cls hw)) ?_ | refine rcG rfl rfl rfl rfl rfl rfl rfl rfl rfl (fun hg w hw => awake17_spec w (hs.cls hw)) ?_) | (show ∀ _ : Nat, T _ _ _ _ _; intro _) | (show T _ (.code .ret :: _) _ _ _; refine T_retV [] rfl (Hle.none _) ⟨rfl, rfl⟩))
  · obtain ⟨h1, _⟩ := greatB_false h
    have hx := (longT_small (h1 x (by simp))).1
    have hy := (longT_small (h1 y (by simp))).1
    repeat' (first | refine d1 ?_ | refine dd ?_ | (show T _ (.ops _ (_ :: _) :: _) _ _ _; first | refine T_call rfl rfl rfl rfl rfl (fun w hw => pairTop_spec c x y hx hy w (hs.cls hw)) ?_ | refine T_callC rfl rfl rfl rfl rfl rfl rfl (fun hg w hw => pairTop_spec c x y hx hy w (hs.cls hw)) ?_ | refine T_call rfl rfl rfl rfl rfl (fun w hw => pairTopRef_spec c x y w) ?_ | refine T_callC rfl rfl rfl rfl rfl rfl rfl (fun hg w hw => pairTopRef_spec c x y w) ?_ | refine T_call rfl rfl rfl rfl rfl (fun w hw => gapTop_spec c x hx w (hs.cls hw)) ?_ | refine T_callC rfl rfl rfl rfl rfl rfl rfl (fun hg w hw => gapTop_spec c x hx w (hs.cls hw)) ?_ | refine T_call rfl rfl rfl rfl rfl (fun w hw => gapTopRef_spec c x w) ?_ | refine T_callC rfl rfl rfl rfl rfl rfl rfl (fun hg w hw => gapTopRef_spec c x w) ?_ | refine T_call rfl rfl rfl rfl rfl (fun w hw => costPrg_spec c w) ?_ | refine T_callC rfl rfl rfl rfl rfl rfl rfl (fun hg w hw => costPrg_spec c w) ?_ | refine T_call rfl rfl rfl rfl rfl (fun w hw => costRef_spec c w) ?_ | refine T_callC rfl rfl rfl rfl rfl rfl rfl (fun hg w hw => costRef_spec c w) ?_ | refine T_call rfl rfl rfl rfl rfl (fun w hw => defaultPrg_spec w) ?_ | refine T_callC rfl rfl rfl rfl rfl rfl rfl (fun hg w hw => defaultPrg_spec w) ?_ | refine T_call rfl rfl rfl rfl rfl (fun w hw => defaultRef_spec w) ?_ | refine T_callC rfl rfl rfl rfl rfl rfl rfl (fun hg w hw => defaultRef_spec w) ?_ | refine T_call rfl rfl rfl rfl rfl (fun w hw => awake17_spec w (hs.cls hw)) ?_ | refine T_callC rfl rfl rfl rfl rfl rfl rfl (fun hg w hw => awake17_spec w (hs.cls hw)) ?_ | refine T_val rfl (Val.eqS (r := true) rfl (fun w => eqCosts defaultC defaultC w) Tryd.eqGuardType23) rfl rfl rfl ?_ | refine T_valC rfl (Val.eqS (r := true) rfl (fun w => eqCosts defaultC defaultC w) Tryd.eqGuardType23) rfl rfl rfl rfl rfl ?_) | (show T _ (.run _ _ (_ :: _) _ _ :: _) _ _ _; first | refine rc rfl rfl rfl rfl rfl rfl rfl (fun w hw => pairTop_spec c x y hx hy w (hs.cls hw)) ?_ | refine rcG rfl rfl rfl rfl rfl rfl rfl rfl rfl (fun hg w hw => pairTop_spec c x y hx hy w (hs.cls hw)) ?_ | refine rc rfl rfl rfl rfl rfl rfl rfl (fun w hw => pairTopRef_spec c x y w) ?_ | refine rcG rfl rfl rfl rfl rfl rfl rfl rfl rfl (fun hg w hw => pairTopRef_spec c x y w) ?_ | refine rc rfl rfl rfl rfl rfl rfl rfl (fun w hw => gapTop_spec c x hx w (hs.cls hw)) ?_ | refine rcG rfl rfl rfl rfl rfl rfl rfl rfl rfl (fun hg w hw => gapTop_spec c x hx w (hs.cls hw)) ?_ | refine rc rfl rfl rfl rfl rfl rfl rfl (fun w hw => gapTopRef_spec c x w) ?_ | refine rcG rfl rfl rfl rfl rfl rfl rfl rfl rfl (fun hg w hw => gapTopRef_spec c x w) ?_ | refine rc rfl rfl rfl rfl rfl rfl rfl (fun w hw => costPrg_spec c w) ?_ | refine rcG rfl rfl rfl rfl rfl rfl rfl rfl rfl (fun hg w hw => costPrg_spec c w) ?_ | refine rc rfl rfl rfl rfl rfl rfl rfl (fun w hw => costRef_spec c w) ?_ | refine rcG rfl rfl rfl rfl rfl rfl rfl rfl rfl (fun hg w hw => costRef_spec c w) ?_ | refine rc rfl rfl rfl rfl rfl rfl rfl (fun w hw => defaultPrg_spec w) ?_ | refine rcG rfl rfl rfl rfl rfl rfl rfl rfl rfl (fun hg w hw => defaultPrg_spec w) ?_ | refine rc rfl rfl rfl rfl rfl rfl rfl (fun w hw => defaultRef_spec w) ?_ | refine rcG rfl rfl rfl rfl rfl rfl rfl rfl rfl (fun hg w hw => defaultRef_spec w) ?_ | refine rc rfl rfl rfl rfl rfl rfl rfl (fun w hw => awake17_spec w (hs.cls hw)) ?_ | refine rcG rfl rfl rfl rfl rfl rfl rfl rfl rfl (fun hg w hw => awake17_spec w (hs.cls hw)) ?_ | refine rv rfl rfl rfl (Val.eqS (r := true) rfl (fun w => eqCosts defaultC defaultC w) Tryd.eqGuardType23) rfl rfl rfl ?_ | refine rg rfl rfl rfl (Val.eqS (r := true) rfl (fun w => eqCosts defaultC defaultC w) Tryd.eqGuardType23) rfl rfl rfl rfl rfl ?_) | (show ∀ _ : Nat, T _ _ _ _ _; intro _) | (show T _ (.code .ret :: _) _ _ _; refine T_retV [] rfl (Hle.none _) ⟨congrArg Value.bool ?_, rfl⟩))
    simp

theorem pairs_met (os : Os) (args : Array Value) : laidMetH Tryd.prog Rows.tokencostPairsRow.laid ((World.doorLaid Tryd.prog 400 os).forCall (fun _ _ => 0) ⟨#[], args, []⟩).memory :=
  laidMetH_of_parts3 (fuel := 8) (laidMet_of_run' 8 (by kernel_rfl) (by kernel_rfl)) (by kernel_rfl) (by kernel_rfl)
theorem pairs_lifted (os : Os) (started : os.Started) (H : Type) (enc : TypeId × Value → H) :
    ReturnsInHanded {} Tryd.checked os 3 .any (fun w args => (Rows.tokencostPairsSpec.pre enc Tryd.prog Tryd.f3 [] false w args ∧ laidMetH Tryd.prog Rows.tokencostPairsRow.laid w) ∧ sizedMet enc Tryd.prog Tryd.f3 (OpenSpec.ofChange Rows.tokencostPairsSpec) false w args)
      (Rows.tokencostPairsSpec.post enc Tryd.prog Tryd.f3 false true false false) := by
  refine returnsInHanded_of_change_and (C := Tryd.checked) (X := fun w _ => laidMetH Tryd.prog Rows.tokencostPairsRow.laid w) (fun _ _ _ hh h => h.of_heap hh) knob started (by kernel_rfl) Tryd.func3
    (ChangeSpec.witness_shaped (enc := enc) (C := Tryd.checked) (os := os) (X := fun w _ => laidMetH Tryd.prog Rows.tokencostPairsRow.laid w) false (World.doorLaid Tryd.prog 400 os) #[(⟨0, 0, 0, 0⟩ : Costs).val, (⟨.empty, .empty, .empty, 0, 0, .empty⟩ : Tok).val, (⟨.empty, .empty, .empty, 0, 0, .empty⟩ : Tok).val] 8 rfl (World.shaped_of_RefB (by kernel_rfl) (by kernel_rfl)) (by kernel_rfl) (by kernel_rfl) (by kernel_rfl) (pairs_met os _)) ?_
  intro W base args ds gs before hval0 hW _ _ hL _
  have hval : ∀ (j : Nat) t v, Tryd.f3.params[j]? = some t → args[j]? = some v → Value.okWide Tryd.prog W .any base t v := hval0
  have hstd := std_of (show laidMetH Tryd.prog laids W from hL)
  have hW' := hW
  obtain ⟨p, q, hA0, hV, rfl, hfz, hnd⟩ := hW
  have hA : DataW.TrodAll enc Tryd.prog W 0 (fun _ => true) true Tryd.f3.params.toList args.toList ds p := hA0
  obtain ⟨v0, vs0, d0, ds0, p0, q0, e0, rfl, rfl, h0, hA⟩ := trodAll_cons hA
  obtain ⟨v1, vs1, d1, ds1, p1, q1, rfl, rfl, rfl, h1, hA⟩ := trodAll_cons hA
  obtain ⟨v2, vs2, d2, ds2, p2, q2, rfl, rfl, rfl, h2, hA⟩ := trodAll_cons hA
  obtain ⟨rfl, rfl, rfl⟩ := trodAll_nil hA
  have ea : args = #[v0, v1, v2] := Array.ext' e0
  subst ea
  obtain ⟨c, rfl⟩ := arg_costs (hval 0 _ v0 rfl rfl) h0
  obtain ⟨x, rfl⟩ := arg_tok (hval 1 _ v1 rfl rfl) h1
  obtain ⟨y, rfl⟩ := arg_tok (hval 2 _ v2 rfl rfl) h2
  refine (tokencostPairs_spec c x y W hstd).calls.mono ?_
  rintro e W' ⟨v, A, rfl, ⟨rfl, _⟩, hb, _⟩
  exact ⟨_, rfl, law_post hW' rfl rfl laidOk (by intro t ht; simp only [show Tryd.f3.params.toList = [23, 27, 27] from rfl, List.mem_cons, List.mem_nil_iff, or_false] at ht; rcases ht with rfl | rfl | rfl <;> exact ⟨by kernel_rfl, of_decide_eq_true (by kernel_rfl)⟩) rfl Tryd.underlying4 hb⟩
theorem pairs_holds : Rows.TokencostPairsSaid :=
  OpenClaim.holds_of_wide 3 Tryd.f3 rfl rfl rfl rfl rfl rfl rfl ⟨rfl, rfl, rfl, rfl, rfl⟩ rfl rfl rfl rfl rfl (by kernel_rfl) Tryd.func3 (by kernel_rfl)
    (of_decide_eq_true (by kernel_rfl)) (by unfold Func.isWrapper; first | (rw [if_pos (by decide +kernel)]; kernel_rfl) | (rw [if_neg (by decide +kernel)]; exact ⟨rfl, rfl⟩))
    (fun os started H enc _ => pairs_lifted os started H enc)
theorem pairs_card : Rows.TokencostPairsCardSaid :=
  Claim7.holds_tied_plain_at .later [] [.data, .data, .data, .sentinel, .sentinel] true (true, "28692782097a374b4e0f7a632efec21f45e145e988e45c574558877b0063dbc4") true
    pairs_holds (fun _ h => by cases h) (by kernel_rfl) (fun _ h => by cases h) tokencostPairs_row_tie rfl ⟨rfl, rfl⟩ (by kernel_rfl) rfl
    (fun f fn hf hfn => by
      obtain rfl : f = 3 := Option.some.inj ((show Tryd.prog.funcNamed "apograph/apographlaw17.TokencostPairs" = some 3 by kernel_rfl).symm.trans hf) |>.symm
      obtain rfl : fn = Tryd.f3 := (Option.some.inj (Tryd.func3.symm.trans hfn)).symm
      exact ⟨by kernel_rfl, fun j t ht => by
        have ht' : [23, 27, 27][j]? = some t := by rw [Tryd.params3] at ht; simpa using ht
        have hm := List.mem_of_getElem? ht'
        simp only [List.mem_cons, List.mem_nil_iff, or_false] at hm
        rcases hm with rfl | rfl | rfl <;> exact (show Tryd.prog.wantsStandIn _ = false by kernel_rfl)⟩)
    (by kernel_rfl)
#print axioms pairs_card
end Go.Proofs.YtiglobijdegjdaaDoor
