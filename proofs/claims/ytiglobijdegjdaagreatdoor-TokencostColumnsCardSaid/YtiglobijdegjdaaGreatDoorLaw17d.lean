/- The law TokencostColumns holds for whatever costs, tokens and marks. -/
import Derived.Test.YtiglobijdegjdaaGreatDoorWalkV
import Derived.Test.YtiglobijdegjdaaGreatDoorLiftB
import Derived.Test.YtiglobijdegjdaaGreatDoorEngU
import Derived.Test.YtiglobijdegjdaaGreatDoorCards
import Derived.Test.YtiglobijdegjdaaGreatDoorTie
namespace Go.Proofs.YtiglobijdegjdaaGreatDoor
open Go.RowKit Go.Shelf Go.ChangeShapes Go.WideShapes Go.Proofs
set_option maxRecDepth 100000
set_option maxHeartbeats 1000000

theorem columns_spec (c : Costs) (A B : Option Addr) (ca cb : Nat) (l : List Tok) (b : List Bool) (w : World) (hst : Std w) (hl : Src w 6 A l.length (l.flatMap Tok.cells)) (hnb : l.length ≤ 9223372036854775807)
    (hb : Src w 1 B b.length (b.map Value.bool)) (hmb : b.length ≤ 9223372036854775807) :
    Spec Tryz.prog 3 [c.val, .slice A l.length ca, .slice B b.length cb] w (fun v R => v = .bool true ∧ R = []) := by
  refine spec_of sg Tryz.func3 rfl rfl rfl ?_
  refine T_op (OpT.box (cs := c.cells) rfl rfl rfl rfl rfl rfl rfl (fun pc => ?_))
  repeat' (first | refine d1 ?_ | refine dd ?_ | (show T _ (.ops _ (_ :: _) :: _) _ _ _; first | refine T_call rfl rfl rfl rfl rfl (fun w hw => great17_spec A _ ca l w (rdSrc hl w ‹_›) rfl hnb) ?_ | refine T_callC rfl rfl rfl rfl rfl rfl rfl (fun hg w hw => great17_spec A _ ca l w (rdSrc hl w ‹_›) rfl hnb) ?_) | (show T _ (.run _ _ (_ :: _) _ _ :: _) _ _ _; first | refine rc rfl rfl rfl rfl rfl rfl rfl (fun w hw => great17_spec A _ ca l w (rdSrc hl w ‹_›) rfl hnb) ?_ | refine rcG rfl rfl rfl rfl rfl rfl rfl rfl rfl (fun hg w hw => great17_spec A _ ca l w (rdSrc hl w ‹_›) rfl hnb) ?_) | (show ∀ _ : Nat, T _ _ _ _ _; intro _))
  refine T_if rfl (fun h => ?_) (fun h => ?_)
  · repeat' (first | refine d1 ?_ | refine dd ?_ | (show T _ (.ops _ (_ :: _) :: _) _ _ _; first | refine T_call rfl rfl rfl rfl rfl (fun w hw => awake17_spec w (hst.cls ‹_›)) ?_ | refine T_callC rfl rfl rfl rfl rfl rfl rfl (fun hg w hw => awake17_spec w (hst.cls ‹_›)) ?_) | (show T _ (.run _ _ (_ :: _) _ _ :: _) _ _ _; first | refine rc rfl rfl rfl rfl rfl rfl rfl (fun w hw => awake17_spec w (hst.cls ‹_›)) ?_ | refine rcG rfl rfl rfl rfl rfl rfl rfl rfl rfl (fun hg w hw => awake17_spec w (hst.cls ‹_›)) ?_) | (show ∀ _ : Nat, T _ _ _ _ _; intro _) | (show T _ (.code .ret :: _) _ _ _; refine T_retV [] rfl (Hle.none _) ⟨rfl, rfl⟩))
  simp only [Bool.or_eq_false_iff, Bool.or_eq_true, not_or, Bool.not_eq_true, decide_eq_false_iff_not] at h
  obtain ⟨hg, -⟩ := greatB_false h.1
  have hsm : ∀ t ∈ l, t.small := fun t ht => (longT_small (hg t ht)).1
  repeat' (first | refine d1 ?_ | refine dd ?_ | (show T _ (.ops _ (_ :: _) :: _) _ _ _; first | refine T_call rfl rfl rfl rfl rfl (fun w hw => columnPrg_spec c A B _ _ ca cb l b w (hst.cls ‹_›) (rdSrc hl w ‹_›) rfl hnb (rdSrc hb w ‹_›) rfl hmb hsm) ?_ | refine T_callC rfl rfl rfl rfl rfl rfl rfl (fun hg w hw => columnPrg_spec c A B _ _ ca cb l b w (hst.cls ‹_›) (rdSrc hl w ‹_›) rfl hnb (rdSrc hb w ‹_›) rfl hmb hsm) ?_ | refine T_call rfl rfl rfl rfl rfl (fun w hw => columnRef_spec c A B _ _ ca cb l b w (rdSrc hl w ‹_›) rfl hnb (rdSrc hb w ‹_›) rfl hmb) ?_ | refine T_callC rfl rfl rfl rfl rfl rfl rfl (fun hg w hw => columnRef_spec c A B _ _ ca cb l b w (rdSrc hl w ‹_›) rfl hnb (rdSrc hb w ‹_›) rfl hmb) ?_ | refine T_call rfl rfl rfl rfl rfl (fun w hw => metricPrg_spec c A _ ca l w (hst.cls ‹_›) (rdSrc hl w ‹_›) rfl hnb hsm) ?_ | refine T_callC rfl rfl rfl rfl rfl rfl rfl (fun hg w hw => metricPrg_spec c A _ ca l w (hst.cls ‹_›) (rdSrc hl w ‹_›) rfl hnb hsm) ?_ | refine T_call rfl rfl rfl rfl rfl (fun w hw => metricRef_spec c A _ ca l w (rdSrc hl w ‹_›) rfl hnb) ?_ | refine T_callC rfl rfl rfl rfl rfl rfl rfl (fun hg w hw => metricRef_spec c A _ ca l w (rdSrc hl w ‹_›) rfl hnb) ?_) | (show T _ (.run _ _ (_ :: _) _ _ :: _) _ _ _; first | refine rc rfl rfl rfl rfl rfl rfl rfl (fun w hw => columnPrg_spec c A B _ _ ca cb l b w (hst.cls ‹_›) (rdSrc hl w ‹_›) rfl hnb (rdSrc hb w ‹_›) rfl hmb hsm) ?_ | refine rcG rfl rfl rfl rfl rfl rfl rfl rfl rfl (fun hg w hw => columnPrg_spec c A B _ _ ca cb l b w (hst.cls ‹_›) (rdSrc hl w ‹_›) rfl hnb (rdSrc hb w ‹_›) rfl hmb hsm) ?_ | refine rc rfl rfl rfl rfl rfl rfl rfl (fun w hw => columnRef_spec c A B _ _ ca cb l b w (rdSrc hl w ‹_›) rfl hnb (rdSrc hb w ‹_›) rfl hmb) ?_ | refine rcG rfl rfl rfl rfl rfl rfl rfl rfl rfl (fun hg w hw => columnRef_spec c A B _ _ ca cb l b w (rdSrc hl w ‹_›) rfl hnb (rdSrc hb w ‹_›) rfl hmb) ?_ | refine rc rfl rfl rfl rfl rfl rfl rfl (fun w hw => metricPrg_spec c A _ ca l w (hst.cls ‹_›) (rdSrc hl w ‹_›) rfl hnb hsm) ?_ | refine rcG rfl rfl rfl rfl rfl rfl rfl rfl rfl (fun hg w hw => metricPrg_spec c A _ ca l w (hst.cls ‹_›) (rdSrc hl w ‹_›) rfl hnb hsm) ?_ | refine rc rfl rfl rfl rfl rfl rfl rfl (fun w hw => metricRef_spec c A _ ca l w (rdSrc hl w ‹_›) rfl hnb) ?_ | refine rcG rfl rfl rfl rfl rfl rfl rfl rfl rfl (fun hg w hw => metricRef_spec c A _ ca l w (rdSrc hl w ‹_›) rfl hnb) ?_) | (show ∀ _ : Nat, T _ _ _ _ _; intro _))
  refine T_op (OpT.call rfl rfl rfl rfl rfl (fun w hw => matrixTop_spec c A _ ca l w (hst.cls ‹_›) (rdSrc hl w ‹_›) rfl hnb hsm) ?_)
  rintro v R ⟨x, -, rfl, rfl⟩
  refine T_le (H' := [dat [x] [rowsD (matrixV c l).1], blk pc c.cells 23]) (Hle.refl _) ?_
  refine T_open fun p hx => ?_
  repeat' (first | refine d1 ?_ | refine dd ?_ | (show ∀ _ : Nat, T _ _ _ _ _; intro _))
  refine T_op (OpT.call rfl rfl rfl rfl rfl (fun w hw => matrixRef_spec c A _ ca l w (rdSrc hl w ‹_›) rfl hnb) ?_)
  rintro v R ⟨y, -, rfl, rfl⟩
  refine T_le (H' := [dat [y] [rowsD (matrixV c l).1], fz p, blk pc c.cells 23]) (Hle.refl _) ?_
  refine T_open fun q hy => ?_
  repeat' (first | refine d1 ?_ | refine dd ?_ | (show T _ (.ops _ (_ :: _) :: _) _ _ _; first | refine T_call rfl rfl rfl rfl rfl (fun w hw => sameTable_spec x y _ _ w (hx.own hw) (hy.own hw)) ?_ | refine T_callC rfl rfl rfl rfl rfl rfl rfl (fun hg w hw => sameTable_spec x y _ _ w (hx.own hw) (hy.own hw)) ?_ | refine T_call rfl rfl rfl rfl rfl (fun w hw => awake17_spec w (hst.cls hw)) ?_ | refine T_callC rfl rfl rfl rfl rfl rfl rfl (fun hg w hw => awake17_spec w (hst.cls hw)) ?_ | refine T_val rfl (Val.eqB rfl) rfl rfl rfl ?_ | refine T_valC rfl (Val.eqB rfl) rfl rfl rfl rfl rfl ?_) | (show T _ (.run _ _ (_ :: _) _ _ :: _) _ _ _; first | refine rc rfl rfl rfl rfl rfl rfl rfl (fun w hw => sameTable_spec x y _ _ w (hx.own hw) (hy.own hw)) ?_ | refine rcG rfl rfl rfl rfl rfl rfl rfl rfl rfl (fun hg w hw => sameTable_spec x y _ _ w (hx.own hw) (hy.own hw)) ?_ | refine rc rfl rfl rfl rfl rfl rfl rfl (fun w hw => awake17_spec w (hst.cls hw)) ?_ | refine rcG rfl rfl rfl rfl rfl rfl rfl rfl rfl (fun hg w hw => awake17_spec w (hst.cls hw)) ?_ | refine rv rfl rfl rfl (Val.eqB rfl) rfl rfl rfl ?_ | refine rg rfl rfl rfl (Val.eqB rfl) rfl rfl rfl rfl rfl ?_) | (show ∀ _ : Nat, T _ _ _ _ _; intro _) | (show T _ (.code .ret :: _) _ _ _; refine T_retV [] rfl (Hle.none _) ⟨congrArg Value.bool (by simp), rfl⟩))
theorem columns_met (os : Os) (args : Array Value) : laidMetH Tryz.prog Rows.tokencostColumnsRow.laid ((World.doorLaid Tryz.prog 400 os).forCall (fun _ _ => 0) ⟨#[], args, []⟩).memory :=
  laidMetH_of_parts3 (fuel := 8) (laidMet_of_run' 8 (by kernel_rfl) (by kernel_rfl)) (by kernel_rfl) (by kernel_rfl)
theorem columns_lifted (os : Os) (started : os.Started) (H : Type) (enc : TypeId × Value → H) :
    ReturnsInHanded {} Tryz.checked os 3 .any (fun w args => (Rows.tokencostColumnsSpec.pre enc Tryz.prog Tryz.f3 [] false w args ∧ laidMetH Tryz.prog Rows.tokencostColumnsRow.laid w) ∧ sizedMet enc Tryz.prog Tryz.f3 (OpenSpec.ofChange Rows.tokencostColumnsSpec) false w args)
      (Rows.tokencostColumnsSpec.post enc Tryz.prog Tryz.f3 false true false false) := by
  refine returnsInHanded_of_change_and (C := Tryz.checked) (X := fun w _ => laidMetH Tryz.prog Rows.tokencostColumnsRow.laid w) (fun _ _ _ hh h => h.of_heap hh) knob started (by kernel_rfl) Tryz.func3
    (ChangeSpec.witness_shaped (enc := enc) (C := Tryz.checked) (os := os) (X := fun w _ => laidMetH Tryz.prog Rows.tokencostColumnsRow.laid w) false (World.doorLaid Tryz.prog 400 os) #[(⟨0, 0, 0, 0⟩ : Costs).val, .slice none 0 0, .slice none 0 0] 8 rfl (World.shaped_of_RefB (by kernel_rfl) (by kernel_rfl)) (by kernel_rfl) (by kernel_rfl) (by kernel_rfl) (columns_met os _)) ?_
  intro W base args ds gs before hval0 hW _ _ hL _
  have hval : ∀ (j : Nat) t v, Tryz.f3.params[j]? = some t → args[j]? = some v → Value.okWide Tryz.prog W .any base t v := hval0
  have hstd := std_of (show laidMetH Tryz.prog laids W from hL)
  have hW' := hW
  obtain ⟨p, q, hA0, hV, rfl, hfz, hnd⟩ := hW
  have hA : DataW.TrodAll enc Tryz.prog W 0 (fun _ => true) true Tryz.f3.params.toList args.toList ds p := hA0
  obtain ⟨v0, vs0, d0, ds0, p0, q0, e0, rfl, rfl, h0, hA⟩ := trodAll_cons hA
  obtain ⟨v1, vs1, d1, ds1, p1, q1, rfl, rfl, rfl, h1, hA⟩ := trodAll_cons hA
  obtain ⟨v2, vs2, d2, ds2, p2, q2, rfl, rfl, rfl, h2, hA⟩ := trodAll_cons hA
  obtain ⟨rfl, rfl, rfl⟩ := trodAll_nil hA
  have ea : args = #[v0, v1, v2] := Array.ext' e0
  subst ea
  obtain ⟨c, rfl⟩ := arg_costs (hval 0 _ v0 rfl rfl) h0
  obtain ⟨A_l, cap_l, l, rfl, hb_l, hs_l⟩ := arg_toks (hval 1 _ v1 rfl rfl) h1
  obtain ⟨A_b, cap_b, b, rfl, hb_b, hs_b⟩ := arg_bools (hval 2 _ v2 rfl rfl) h2
  refine (columns_spec c A_l A_b cap_l cap_b l b W hstd hs_l hb_l hs_b hb_b).calls.mono ?_
  rintro e W' ⟨v, A, rfl, ⟨rfl, _⟩, hb, _⟩
  exact ⟨_, rfl, law_post hW' rfl rfl laidOk (by intro t ht; simp only [show Tryz.f3.params.toList = [23, 24, 25] from rfl, List.mem_cons, List.mem_nil_iff, or_false] at ht; rcases ht with rfl | rfl | rfl <;> exact ⟨by kernel_rfl, of_decide_eq_true (by kernel_rfl)⟩) rfl Tryz.underlying4 hb⟩
theorem columns_holds : Rows.TokencostColumnsSaid :=
  OpenClaim.holds_of_wide 3 Tryz.f3 rfl rfl rfl rfl rfl rfl rfl ⟨rfl, rfl, rfl, rfl, rfl⟩ rfl rfl rfl rfl rfl (by kernel_rfl) Tryz.func3 (by kernel_rfl)
    (of_decide_eq_true (by kernel_rfl)) (by unfold Func.isWrapper; first | (rw [if_pos (by decide +kernel)]; kernel_rfl) | (rw [if_neg (by decide +kernel)]; exact ⟨rfl, rfl⟩))
    (fun os started H enc _ => columns_lifted os started H enc)
theorem columns_card : Rows.TokencostColumnsCardSaid :=
  Claim7.holds_tied_plain_at .later [] [.data, .data, .data, .sentinel, .sentinel] true (true, "2d9c59d6845ff06af4ed00d81f5e1b37a716ff63647aa255cfe850c691c59b23") true
    columns_holds (fun _ h => by cases h) (by kernel_rfl) (fun _ h => by cases h) tokencostColumns_row_tie rfl ⟨rfl, rfl⟩ (by kernel_rfl) rfl
    (fun f fn hf hfn => by
      obtain rfl : f = 3 := Option.some.inj ((show Tryz.prog.funcNamed "apograph/apographlaw17.TokencostColumns" = some 3 by kernel_rfl).symm.trans hf) |>.symm
      obtain rfl : fn = Tryz.f3 := (Option.some.inj (Tryz.func3.symm.trans hfn)).symm
      exact ⟨by kernel_rfl, fun j t ht => by
        have ht' : [23, 24, 25][j]? = some t := by rw [Tryz.params3] at ht; simpa using ht
        have hm := List.mem_of_getElem? ht'
        simp only [List.mem_cons, List.mem_nil_iff, or_false] at hm
        rcases hm with rfl | rfl | rfl <;> exact (show Tryz.prog.wantsStandIn _ = false by kernel_rfl)⟩)
    (by kernel_rfl)
#print axioms columns_card
end Go.Proofs.YtiglobijdegjdaaGreatDoor
