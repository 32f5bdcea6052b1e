/- The law TokencostDefault holds for whatever tokens: the tied card of its row. No condition beyond the row's own. -/
import Derived.Test.YtiglobijdegjdaaDoorWalkN
import Derived.Test.YtiglobijdegjdaaDoorWalkQ
import Derived.Test.YtiglobijdegjdaaDoorWalkR
import Derived.Test.YtiglobijdegjdaaDoorSpecR
import Derived.Test.YtiglobijdegjdaaDoorLiftB
import Derived.Test.YtiglobijdegjdaaDoorCards
import Derived.Test.YtiglobijdegjdaaDoorTie
namespace Go.Proofs.YtiglobijdegjdaaDoor
open Go.RowKit Go.Shelf Go.ChangeShapes Go.WideShapes Go.Proofs
set_option maxRecDepth 100000
set_option maxHeartbeats 1000000

theorem tokErr_fine {c : Costs} {l : List Tok} (hc : costE c = 0) (h : ∀ t ∈ l, tokE t = 0) : tokErr c l = 0 := tokErr_all hc fun _ hj => h _ (tkA_mem hj)
def oddT (t : Tok) : Bool := !decide (andI t.flags 2 = 0) || !decide (t.norm = t.text)
theorem default1_spec (t : Tok) (hf : 0 ≤ t.flags ∧ t.flags ≤ 31) (w : World) : Spec Tryd.prog 28 [t.val] w (fun v A => v = .bool (oddT t) ∧ A = []) := by
  refine spec_of sg Tryd.func28 rfl rfl rfl ?_
  repeat' (first | (show T _ (.ops _ (⟨_, .box _ _, _, _, _, _⟩ :: _) :: _) _ _ _; refine T_op (OpT.box (cs := t.cells) rfl rfl rfl rfl rfl rfl rfl (fun _ => ?_))) | refine d1 ?_ | refine dd ?_ | (show ∀ _ : Nat, T _ _ _ _ _; intro _) | (show T _ (.code .ret :: _) _ _ _; refine T_retV [] rfl (Hle.none _) ⟨rfl, rfl⟩))
theorem default_spec (A : Option Addr) (ca : Nat) (l : List Tok) (w : World) (hst : Std w) (hl : Src w 6 A l.length (l.flatMap Tok.cells)) (hnb : l.length ≤ 9223372036854775807) :
    Spec Tryd.prog 9 [.slice A l.length ca] w (fun v R => v = .bool true ∧ R = []) := by
  refine spec_of sg Tryd.func9 rfl rfl rfl ?_
  repeat' (first | refine d1 ?_ | refine dd ?_ | (show T _ (.ops _ (_ :: _) :: _) _ _ _; first | refine T_call rfl rfl rfl rfl rfl (fun w hw => defaultPrg_spec w) ?_ | refine T_callC rfl rfl rfl rfl rfl rfl rfl (fun hg w hw => defaultPrg_spec w) ?_ | refine T_call rfl rfl rfl rfl rfl (fun w hw => costPrg_spec defaultC w) ?_ | refine T_callC rfl rfl rfl rfl rfl rfl rfl (fun hg w hw => costPrg_spec defaultC w) ?_) | (show T _ (.run _ _ (_ :: _) _ _ :: _) _ _ _; first | refine rc rfl rfl rfl rfl rfl rfl rfl (fun w hw => defaultPrg_spec w) ?_ | refine rcG rfl rfl rfl rfl rfl rfl rfl rfl rfl (fun hg w hw => defaultPrg_spec w) ?_ | refine rc rfl rfl rfl rfl rfl rfl rfl (fun w hw => costPrg_spec defaultC w) ?_ | refine rcG rfl rfl rfl rfl rfl rfl rfl rfl rfl (fun hg w hw => costPrg_spec defaultC w) ?_) | (show ∀ _ : Nat, T _ _ _ _ _; intro _))
  refine T_if rfl (fun h => ?_) (fun h => ?_)
  · rw [costE_default] at h; simp at h
  repeat' (first | refine d1 ?_ | refine dd ?_ | (show T _ (.ops _ (_ :: _) :: _) _ _ _; first | refine T_call rfl rfl rfl rfl rfl (fun w hw => fine_spec defaultC A _ ca l w (rdSrc hl w ‹_›) rfl hnb) ?_ | refine T_callC rfl rfl rfl rfl rfl rfl rfl (fun hg w hw => fine_spec defaultC A _ ca l w (rdSrc hl w ‹_›) rfl hnb) ?_ | refine T_call rfl rfl rfl rfl rfl (fun w hw => containsFuncT_spec A _ ca l _ [] [] oddT w (rdSrc hl w ‹_›) rfl hnb (fun x hx w' hb' => default1_spec x (by (simp only [List.cons_append, List.nil_append, GP, dstL, lookE, Nat.beq, cond, List.getElem?_cons_zero, List.getElem?_cons_succ, Option.bind_some, and_true, Bool.and_eq_true, Bool.or_eq_true, Bool.and_eq_false_iff, Bool.or_eq_false_iff, Bool.not_eq_true', Bool.not_eq_false', decide_eq_true_eq, decide_eq_false_iff_not] at hg); exact (tokE_ok ((fineB_ok hg).2.2.2 x hx)).1) w')) ?_ | refine T_callC rfl rfl rfl rfl rfl rfl rfl (fun hg w hw => containsFuncT_spec A _ ca l _ [] [] oddT w (rdSrc hl w ‹_›) rfl hnb (fun x hx w' hb' => default1_spec x (by (simp only [List.cons_append, List.nil_append, GP, dstL, lookE, Nat.beq, cond, List.getElem?_cons_zero, List.getElem?_cons_succ, Option.bind_some, and_true, Bool.and_eq_true, Bool.or_eq_true, Bool.and_eq_false_iff, Bool.or_eq_false_iff, Bool.not_eq_true', Bool.not_eq_false', decide_eq_true_eq, decide_eq_false_iff_not] at hg); exact (tokE_ok ((fineB_ok hg).2.2.2 x hx)).1) w')) ?_) | (show T _ (.run _ _ (_ :: _) _ _ :: _) _ _ _; first | refine rc rfl rfl rfl rfl rfl rfl rfl (fun w hw => fine_spec defaultC A _ ca l w (rdSrc hl w ‹_›) rfl hnb) ?_ | refine rcG rfl rfl rfl rfl rfl rfl rfl rfl rfl (fun hg w hw => fine_spec defaultC A _ ca l w (rdSrc hl w ‹_›) rfl hnb) ?_ | refine rc rfl rfl rfl rfl rfl rfl rfl (fun w hw => containsFuncT_spec A _ ca l _ [] [] oddT w (rdSrc hl w ‹_›) rfl hnb (fun x hx w' hb' => default1_spec x (by (simp only [List.cons_append, List.nil_append, GP, dstL, lookE, Nat.beq, cond, List.getElem?_cons_zero, List.getElem?_cons_succ, Option.bind_some, and_true, Bool.and_eq_true, Bool.or_eq_true, Bool.and_eq_false_iff, Bool.or_eq_false_iff, Bool.not_eq_true', Bool.not_eq_false', decide_eq_true_eq, decide_eq_false_iff_not] at hg); exact (tokE_ok ((fineB_ok hg).2.2.2 x hx)).1) w')) ?_ | refine rcG rfl rfl rfl rfl rfl rfl rfl rfl rfl (fun hg w hw => containsFuncT_spec A _ ca l _ [] [] oddT w (rdSrc hl w ‹_›) rfl hnb (fun x hx w' hb' => default1_spec x (by (simp only [List.cons_append, List.nil_append, GP, dstL, lookE, Nat.beq, cond, List.getElem?_cons_zero, List.getElem?_cons_succ, Option.bind_some, and_true, Bool.and_eq_true, Bool.or_eq_true, Bool.and_eq_false_iff, Bool.or_eq_false_iff, Bool.not_eq_true', Bool.not_eq_false', decide_eq_true_eq, decide_eq_false_iff_not] at hg); exact (tokE_ok ((fineB_ok hg).2.2.2 x hx)).1) w')) ?_) | (show ∀ _ : Nat, T _ _ _ _ _; intro _))
  refine T_if rfl (fun h1 => ?_) (fun h1 => ?_)
  · repeat' (first | refine d1 ?_ | refine dd ?_ | (show T _ (.ops _ (_ :: _) :: _) _ _ _; first | refine T_call rfl rfl rfl rfl rfl (fun w hw => awake17_spec w (hst.cls ‹_›)) ?_ | refine T_callC rfl rfl rfl rfl rfl rfl rfl (fun hg w hw => awake17_spec w (hst.cls ‹_›)) ?_) | (show T _ (.run _ _ (_ :: _) _ _ :: _) _ _ _; first | refine rc rfl rfl rfl rfl rfl rfl rfl (fun w hw => awake17_spec w (hst.cls ‹_›)) ?_ | refine rcG rfl rfl rfl rfl rfl rfl rfl rfl rfl (fun hg w hw => awake17_spec w (hst.cls ‹_›)) ?_) | (show ∀ _ : Nat, T _ _ _ _ _; intro _) | (show T _ (.code .ret :: _) _ _ _; refine T_retV [] rfl (Hle.none _) ⟨rfl, rfl⟩))
  simp only [Bool.or_eq_false_iff, Bool.not_eq_false'] at h1
  obtain ⟨hc, h8, hg, hk⟩ := fineB_ok h1.1
  have hsm : ∀ t ∈ l, t.small := fun t ht => (longT_small (hg t ht)).1
  have hpl : ∀ t ∈ l, plainT t := by
    intro t ht
    have := List.any_eq_false.1 h1.2 t ht
    unfold oddT at this
    simp only [Bool.or_eq_true, Bool.not_eq_true', decide_eq_false_iff_not, not_or, Classical.not_not] at this
    have hf := (flags_law t.flags (tokE_ok (hk t ht)).1).1
    refine ⟨?_, this.2⟩
    rw [← hf, this.1]; rfl
  have hmv : metricV defaultC l = (true, 0) := by
    unfold metricV
    rw [if_neg (by rw [hc]; omega), if_neg (by omega), tokErr_fine hc hk, if_neg (by omega), metB_true (metP_default hpl hk)]
  repeat' (first | refine d1 ?_ | refine dd ?_ | (show T _ (.ops _ (_ :: _) :: _) _ _ _; first | refine T_call rfl rfl rfl rfl rfl (fun w hw => metricPrg_spec defaultC A _ ca l w (hst.cls ‹_›) (rdSrc hl w ‹_›) rfl hnb hsm) ?_ | refine T_callC rfl rfl rfl rfl rfl rfl rfl (fun hg w hw => metricPrg_spec defaultC A _ ca l w (hst.cls ‹_›) (rdSrc hl w ‹_›) rfl hnb hsm) ?_) | (show T _ (.run _ _ (_ :: _) _ _ :: _) _ _ _; first | refine rc rfl rfl rfl rfl rfl rfl rfl (fun w hw => metricPrg_spec defaultC A _ ca l w (hst.cls ‹_›) (rdSrc hl w ‹_›) rfl hnb hsm) ?_ | refine rcG rfl rfl rfl rfl rfl rfl rfl rfl rfl (fun hg w hw => metricPrg_spec defaultC A _ ca l w (hst.cls ‹_›) (rdSrc hl w ‹_›) rfl hnb hsm) ?_) | (show ∀ _ : Nat, T _ _ _ _ _; intro _))
  rw [hmv]
  repeat' (first | refine d1 ?_ | refine dd ?_ | (show T _ (.ops _ (_ :: _) :: _) _ _ _; first | refine T_call rfl rfl rfl rfl rfl (fun w hw => awake17_spec w (hst.cls ‹_›)) ?_ | refine T_callC rfl rfl rfl rfl rfl rfl rfl (fun hg w hw => awake17_spec w (hst.cls ‹_›)) ?_) | (show T _ (.run _ _ (_ :: _) _ _ :: _) _ _ _; first | refine rc rfl rfl rfl rfl rfl rfl rfl (fun w hw => awake17_spec w (hst.cls ‹_›)) ?_ | refine rcG rfl rfl rfl rfl rfl rfl rfl rfl rfl (fun hg w hw => awake17_spec w (hst.cls ‹_›)) ?_) | (show ∀ _ : Nat, T _ _ _ _ _; intro _) | (show T _ (.code .ret :: _) _ _ _; refine T_retV [] rfl (Hle.none _) ⟨rfl, rfl⟩))
theorem default_met (os : Os) (args : Array Value) : laidMetH Tryd.prog Rows.tokencostDefaultRow.laid ((World.doorLaid Tryd.prog 400 os).forCall (fun _ _ => 0) ⟨#[], args, []⟩).memory :=
  laidMetH_of_parts3 (fuel := 8) (laidMet_of_run' 8 (by kernel_rfl) (by kernel_rfl)) (by kernel_rfl) (by kernel_rfl)
theorem default_lifted (os : Os) (started : os.Started) (H : Type) (enc : TypeId × Value → H) :
    ReturnsInHanded {} Tryd.checked os 9 .any (fun w args => (Rows.tokencostDefaultSpec.pre enc Tryd.prog Tryd.f9 [] false w args ∧ laidMetH Tryd.prog Rows.tokencostDefaultRow.laid w) ∧ sizedMet enc Tryd.prog Tryd.f9 (OpenSpec.ofChange Rows.tokencostDefaultSpec) false w args)
      (Rows.tokencostDefaultSpec.post enc Tryd.prog Tryd.f9 false true false false) := by
  refine returnsInHanded_of_change_and (C := Tryd.checked) (X := fun w _ => laidMetH Tryd.prog Rows.tokencostDefaultRow.laid w) (fun _ _ _ hh h => h.of_heap hh) knob started (by kernel_rfl) Tryd.func9
    (ChangeSpec.witness_shaped (enc := enc) (C := Tryd.checked) (os := os) (X := fun w _ => laidMetH Tryd.prog Rows.tokencostDefaultRow.laid w) false (World.doorLaid Tryd.prog 400 os) #[.slice none 0 0] 8 rfl (World.shaped_of_RefB (by kernel_rfl) (by kernel_rfl)) (by kernel_rfl) (by kernel_rfl) (by kernel_rfl) (default_met os _)) ?_
  intro W base args ds gs before hval0 hW _ _ hL _
  have hval : ∀ (j : Nat) t v, Tryd.f9.params[j]? = some t → args[j]? = some v → Value.okWide Tryd.prog W .any base t v := hval0
  have hstd := std_of (show laidMetH Tryd.prog laids W from hL)
  have hW' := hW
  obtain ⟨p, q, hA0, hV, rfl, hfz, hnd⟩ := hW
  have hA : DataW.TrodAll enc Tryd.prog W 0 (fun _ => true) true Tryd.f9.params.toList args.toList ds p := hA0
  obtain ⟨v0, vs0, d0, ds0, p0, q0, e0, rfl, rfl, h0, hA⟩ := trodAll_cons hA
  obtain ⟨rfl, rfl, rfl⟩ := trodAll_nil hA
  have ea : args = #[v0] := Array.ext' e0
  subst ea
  obtain ⟨A_l, cap_l, l, rfl, hb_l, hs_l⟩ := arg_toks (hval 0 _ v0 rfl rfl) h0
  refine (default_spec A_l cap_l l W hstd hs_l hb_l).calls.mono ?_
  rintro e W' ⟨v, A, rfl, ⟨rfl, _⟩, hb, _⟩
  exact ⟨_, rfl, law_post hW' rfl rfl laidOk (by intro t ht; simp only [show Tryd.f9.params.toList = [29] from rfl, List.mem_cons, List.mem_nil_iff, or_false] at ht; rcases ht with rfl <;> exact ⟨by kernel_rfl, of_decide_eq_true (by kernel_rfl)⟩) rfl Tryd.underlying4 hb⟩
theorem default_holds : Rows.TokencostDefaultSaid :=
  OpenClaim.holds_of_wide 9 Tryd.f9 rfl rfl rfl rfl rfl rfl rfl ⟨rfl, rfl, rfl, rfl, rfl⟩ rfl rfl rfl rfl rfl (by kernel_rfl) Tryd.func9 (by kernel_rfl)
    (of_decide_eq_true (by kernel_rfl)) (by unfold Func.isWrapper; first | (rw [if_pos (by decide +kernel)]; kernel_rfl) | (rw [if_neg (by decide +kernel)]; exact ⟨rfl, rfl⟩))
    (fun os started H enc _ => default_lifted os started H enc)
theorem default_card : Rows.TokencostDefaultCardSaid :=
  Claim7.holds_tied_plain_at .later [] [.data, .data, .data, .sentinel, .sentinel] true (true, "28692782097a374b4e0f7a632efec21f45e145e988e45c574558877b0063dbc4") true
    default_holds (fun _ h => by cases h) (by kernel_rfl) (fun _ h => by cases h) tokencostDefault_row_tie rfl ⟨rfl, rfl⟩ (by kernel_rfl) rfl
    (fun f fn hf hfn => by
      obtain rfl : f = 9 := Option.some.inj ((show Tryd.prog.funcNamed "apograph/apographlaw17.TokencostDefault" = some 9 by kernel_rfl).symm.trans hf) |>.symm
      obtain rfl : fn = Tryd.f9 := (Option.some.inj (Tryd.func9.symm.trans hfn)).symm
      exact ⟨by kernel_rfl, fun j t ht => by
        have ht' : [29][j]? = some t := by rw [Tryd.params9] at ht; simpa using ht
        have hm := List.mem_of_getElem? ht'
        simp only [List.mem_cons, List.mem_nil_iff, or_false] at hm
        rcases hm with rfl <;> exact (show Tryd.prog.wantsStandIn _ = false by kernel_rfl)⟩)
    (by kernel_rfl)
#print axioms default_card
end Go.Proofs.YtiglobijdegjdaaDoor
