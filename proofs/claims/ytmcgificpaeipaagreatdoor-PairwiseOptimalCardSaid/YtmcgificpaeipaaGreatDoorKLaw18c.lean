/- The law PairwiseOptimal holds for whatever costs, tokens and numbers: the tied card of its row. No condition beyond the row's own. -/
import Derived.Test.YtmcgificpaeipaaGreatDoorJ4
import Derived.Test.YtmcgificpaeipaaGreatDoorCards
import Derived.Test.YtmcgificpaeipaaGreatDoorTie
set_option linter.unusedVariables false
set_option linter.unusedSimpArgs false
namespace Go.Proofs.YtmcgificpaeipaaGreatDoor
open Go.RowKit Go.Shelf Go.ChangeShapes Go.WideShapes Go.Proofs
set_option maxRecDepth 100000
set_option maxHeartbeats 1000000

theorem optimalLaw_spec (c : Costs) (A B P : Option Addr) (ca cb cp : Nat) (a b : List Tok) (picks : List Int) (w : World) (hst : Std w) (ha : Src w 6 A a.length (a.flatMap Tok.cells)) (hna : a.length ≤ 9223372036854775807)
    (hb : Src w 6 B b.length (b.flatMap Tok.cells)) (hnb : b.length ≤ 9223372036854775807) (hP : Src w 1 P picks.length (picks.map (Value.int .u8))) (hnp : picks.length ≤ 9223372036854775807) (hpb : ∀ z ∈ picks, 0 ≤ z ∧ z ≤ 255) :
    Spec Tryz.prog 5 [c.val, .slice A a.length ca, .slice B b.length cb, .slice P picks.length cp] w (fun v R => v = .bool true ∧ R = []) := by
  refine spec_of sg Tryz.func5 rfl rfl rfl ?_
  refine T_op (OpT.box (cs := c.cells) rfl rfl rfl rfl rfl rfl rfl (fun pc => ?_))
  repeat' (first | refine d1 ?_ | refine dd ?_ | (show T _ (.ops _ (_ :: _) :: _) _ _ _; first | refine T_call rfl rfl rfl rfl rfl (fun w hw => fine18_spec c _ 2 _ [⟨A, a.length, ca, a⟩, ⟨B, b.length, cb, b⟩] w (Src.own hw rfl) rfl (by omega) (tsOk2 (rdSrc ha w hw) hna (rdSrc hb w hw) hnb)) ?_ | refine T_callC rfl rfl rfl rfl rfl rfl rfl (fun hg w hw => fine18_spec c _ 2 _ [⟨A, a.length, ca, a⟩, ⟨B, b.length, cb, b⟩] w (Src.own hw rfl) rfl (by omega) (tsOk2 (rdSrc ha w hw) hna (rdSrc hb w hw) hnb)) ?_) | (show T _ (.run _ _ (_ :: _) _ _ :: _) _ _ _; first | refine rc rfl rfl rfl rfl rfl rfl rfl (fun w hw => fine18_spec c _ 2 _ [⟨A, a.length, ca, a⟩, ⟨B, b.length, cb, b⟩] w (Src.own hw rfl) rfl (by omega) (tsOk2 (rdSrc ha w hw) hna (rdSrc hb w hw) hnb)) ?_ | refine rcG rfl rfl rfl rfl rfl rfl rfl rfl rfl (fun hg w hw => fine18_spec c _ 2 _ [⟨A, a.length, ca, a⟩, ⟨B, b.length, cb, b⟩] w (Src.own hw rfl) rfl (by omega) (tsOk2 (rdSrc ha w hw) hna (rdSrc hb w hw) hnb)) ?_) | (show ∀ _ : Nat, T _ _ _ _ _; intro _))
  refine T_if rfl (fun h => ?_) (fun h => ?_)
  · repeat' (first | refine d1 ?_ | refine dd ?_ | (show T _ (.ops _ (_ :: _) :: _) _ _ _; first | refine T_call rfl rfl rfl rfl rfl (fun w hw => awake18_spec w (hst.cls hw)) ?_ | refine T_callC rfl rfl rfl rfl rfl rfl rfl (fun hg w hw => awake18_spec w (hst.cls hw)) ?_) | (show T _ (.run _ _ (_ :: _) _ _ :: _) _ _ _; first | refine rc rfl rfl rfl rfl rfl rfl rfl (fun w hw => awake18_spec w (hst.cls hw)) ?_ | refine rcG rfl rfl rfl rfl rfl rfl rfl rfl rfl (fun hg w hw => awake18_spec w (hst.cls hw)) ?_) | (show ∀ _ : Nat, T _ _ _ _ _; intro _) | (show T _ (.code .ret :: _) _ _ _; refine T_retV [] rfl (Hle.none _) ⟨rfl, rfl⟩))
  obtain ⟨h2, hck, hla, hlb⟩ := two_of hst ha hb (by simpa using h)
  have e0 : distV c a b = (rst (grdOf c a b) 0 0, 0) := if_pos hck
  have e1 : alignV c a b = (aln (grdOf c a b) 0 0, rst (grdOf c a b) 0 0, 0) := if_pos hck
  have e2 : costV c a b (aln (grdOf c a b) 0 0) = (rst (grdOf c a b) 0 0, 0) := by unfold costV; rw [if_pos hck, alnd_aln _ 0 0 (Nat.zero_le _) (Nat.zero_le _)]
  refine T_le (H' := [blk pc c.cells 23]) Hle.srt ?_
  repeat' (first | refine d1 ?_ | refine dd ?_ | (show T _ (.ops _ (_ :: _) :: _) _ _ _; refine T_op (OpT.call rfl rfl rfl rfl rfl (fun w hw => alignPrg_spec c A B a.length b.length ca cb a b w (h2.cls hw)) ?_)) | (show ∀ _ : Nat, T _ _ _ _ _; intro _))
  rintro v R ⟨x, -, rfl, rfl⟩
  rw [e1]
  refine T_le (H' := [dat [x] [rowsD (aln (grdOf c a b) 0 0)], blk pc c.cells 23]) (Hle.refl _) ?_
  refine T_open fun p hp => ?_
  repeat' (first | refine d1 ?_ | refine dd ?_ | (show T _ (.ops _ (_ :: _) :: _) _ _ _; first | refine T_call rfl rfl rfl rfl rfl (fun w hw => distancePrg_spec c A B a.length b.length ca cb a b w (h2.cls hw)) ?_ | refine T_callC rfl rfl rfl rfl rfl rfl rfl (fun hg w hw => distancePrg_spec c A B a.length b.length ca cb a b w (h2.cls hw)) ?_ | refine T_call rfl rfl rfl rfl rfl (fun w hw => costTop18_spec c A B a.length b.length ca cb a b x _ w (h2.cls hw) (hp.own hw)) ?_ | refine T_callC rfl rfl rfl rfl rfl rfl rfl (fun hg w hw => costTop18_spec c A B a.length b.length ca cb a b x _ w (h2.cls hw) (hp.own hw)) ?_) | (show T _ (.run _ _ (_ :: _) _ _ :: _) _ _ _; first | refine rc rfl rfl rfl rfl rfl rfl rfl (fun w hw => distancePrg_spec c A B a.length b.length ca cb a b w (h2.cls hw)) ?_ | refine rcG rfl rfl rfl rfl rfl rfl rfl rfl rfl (fun hg w hw => distancePrg_spec c A B a.length b.length ca cb a b w (h2.cls hw)) ?_ | refine rc rfl rfl rfl rfl rfl rfl rfl (fun w hw => costTop18_spec c A B a.length b.length ca cb a b x _ w (h2.cls hw) (hp.own hw)) ?_ | refine rcG rfl rfl rfl rfl rfl rfl rfl rfl rfl (fun hg w hw => costTop18_spec c A B a.length b.length ca cb a b x _ w (h2.cls hw) (hp.own hw)) ?_) | (show ∀ _ : Nat, T _ _ _ _ _; intro _))
  refine rcE rfl rfl rfl rfl rfl rfl rfl (fun w hw => way18_spec a.length b.length P picks.length cp picks w (by omega) (by omega) (rdSrc hP w hw) rfl hpb) (fun y hy => ?_)
  obtain ⟨y, cols⟩ := y
  obtain ⟨s, hs⟩ := hy.all rfl rfl (grdOf c a b) rfl rfl
  have hge := alnd_ge cols 0 0 s (Nat.zero_le _) (Nat.zero_le _) hs
  have e3 : costV c a b cols = (s, 0) := by unfold costV; rw [if_pos hck, hs]
  refine T_open fun q hq => ?_
  repeat' (first | refine d1 ?_ | refine dd ?_ | (show T _ (.ops _ (_ :: _) :: _) _ _ _; first | refine T_call rfl rfl rfl rfl rfl (fun w hw => costTop18_spec c A B a.length b.length ca cb a b y cols w (h2.cls hw) (hq.own hw)) ?_ | refine T_callC rfl rfl rfl rfl rfl rfl rfl (fun hg w hw => costTop18_spec c A B a.length b.length ca cb a b y cols w (h2.cls hw) (hq.own hw)) ?_ | refine T_call rfl rfl rfl rfl rfl (fun w hw => awake18_spec w (hst.cls hw)) ?_ | refine T_callC rfl rfl rfl rfl rfl rfl rfl (fun hg w hw => awake18_spec w (hst.cls hw)) ?_) | (show T _ (.run _ _ (_ :: _) _ _ :: _) _ _ _; first | refine rc rfl rfl rfl rfl rfl rfl rfl (fun w hw => costTop18_spec c A B a.length b.length ca cb a b y cols w (h2.cls hw) (hq.own hw)) ?_ | refine rcG rfl rfl rfl rfl rfl rfl rfl rfl rfl (fun hg w hw => costTop18_spec c A B a.length b.length ca cb a b y cols w (h2.cls hw) (hq.own hw)) ?_ | refine rc rfl rfl rfl rfl rfl rfl rfl (fun w hw => awake18_spec w (hst.cls hw)) ?_ | refine rcG rfl rfl rfl rfl rfl rfl rfl rfl rfl (fun hg w hw => awake18_spec w (hst.cls hw)) ?_) | (show ∀ _ : Nat, T _ _ _ _ _; intro _) | (show T _ (.code .ret :: _) _ _ _; refine T_retV [] rfl (Hle.none _) ⟨congrArg Value.bool ?_, rfl⟩))
  rw [e0, e2, e3]
  simp [hge]
theorem optimal_met (os : Os) (args : Array Value) : laidMetH Tryz.prog Rows.pairwiseOptimalRow.laid ((World.doorLaid Tryz.prog 400 os).forCall (fun _ _ => 0) ⟨#[], args, []⟩).memory :=
  laidMetH_of_parts3 (fuel := 8) (laidMet_of_run' 8 (by kernel_rfl) (by kernel_rfl)) (by kernel_rfl) (by kernel_rfl)
theorem optimal_lifted (os : Os) (started : os.Started) (H : Type) (enc : TypeId × Value → H) :
    ReturnsInHanded {} Tryz.checked os 5 .any (fun w args => (Rows.pairwiseOptimalSpec.pre enc Tryz.prog Tryz.f5 [] false w args ∧ laidMetH Tryz.prog Rows.pairwiseOptimalRow.laid w) ∧ sizedMet enc Tryz.prog Tryz.f5 (OpenSpec.ofChange Rows.pairwiseOptimalSpec) false w args)
      (Rows.pairwiseOptimalSpec.post enc Tryz.prog Tryz.f5 false true false false) := by
  refine returnsInHanded_of_change_and (C := Tryz.checked) (X := fun w _ => laidMetH Tryz.prog Rows.pairwiseOptimalRow.laid w) (fun _ _ _ hh h => h.of_heap hh) knob started (by kernel_rfl) Tryz.func5
    (ChangeSpec.witness_shaped (enc := enc) (C := Tryz.checked) (os := os) (X := fun w _ => laidMetH Tryz.prog Rows.pairwiseOptimalRow.laid w) false (World.doorLaid Tryz.prog 400 os) #[(⟨0, 0, 0, 0⟩ : Costs).val, .slice none 0 0, .slice none 0 0, .slice none 0 0] 8 rfl (World.shaped_of_RefB (by kernel_rfl) (by kernel_rfl)) (by kernel_rfl) (by kernel_rfl) (by kernel_rfl) (optimal_met os _)) ?_
  intro W base args ds gs before hval0 hW _ _ hL _
  have hval : ∀ (j : Nat) t v, Tryz.f5.params[j]? = some t → args[j]? = some v → Value.okWide Tryz.prog W .any base t v := hval0
  have hstd := std_of (show laidMetH Tryz.prog laids W from hL)
  have hW' := hW
  obtain ⟨p, q, hA0, hV, rfl, hfz, hnd⟩ := hW
  have hA : DataW.TrodAll enc Tryz.prog W 0 (fun _ => true) true Tryz.f5.params.toList args.toList ds p := hA0
  obtain ⟨v0, vs0, d0, ds0, p0, q0, e0, rfl, rfl, h0, hA⟩ := trodAll_cons hA
  obtain ⟨v1, vs1, d1, ds1, p1, q1, rfl, rfl, rfl, h1, hA⟩ := trodAll_cons hA
  obtain ⟨v2, vs2, d2, ds2, p2, q2, rfl, rfl, rfl, h2, hA⟩ := trodAll_cons hA
  obtain ⟨v3, vs3, d3, ds3, p3, q3, rfl, rfl, rfl, h3, hA⟩ := trodAll_cons hA
  obtain ⟨rfl, rfl, rfl⟩ := trodAll_nil hA
  have ea : args = #[v0, v1, v2, v3] := Array.ext' e0
  subst ea
  obtain ⟨c, rfl⟩ := arg_costs (hval 0 _ v0 rfl rfl) h0
  obtain ⟨A_a, cap_a, a, rfl, hb_a, hs_a⟩ := arg_toks (hval 1 _ v1 rfl rfl) h1
  obtain ⟨A_b, cap_b, b, rfl, hb_b, hs_b⟩ := arg_toks (hval 2 _ v2 rfl rfl) h2
  obtain ⟨A_picks, cap_picks, picks, rfl, hb_picks, hs_picks, hz_picks⟩ := arg_u8s (hval 3 _ v3 rfl rfl) h3
  refine (optimalLaw_spec c A_a A_b A_picks cap_a cap_b cap_picks a b picks W hstd hs_a hb_a hs_b hb_b hs_picks hb_picks hz_picks).calls.mono ?_
  rintro e W' ⟨v, A, rfl, ⟨rfl, _⟩, hb, _⟩
  exact ⟨_, rfl, law_post hW' rfl rfl laidOk (by intro t ht; simp only [show Tryz.f5.params.toList = [23, 24, 24, 40] from rfl, List.mem_cons, List.mem_nil_iff, or_false] at ht; rcases ht with rfl | rfl | rfl | rfl <;> exact ⟨by kernel_rfl, of_decide_eq_true (by kernel_rfl)⟩) rfl Tryz.underlying4 hb⟩
theorem optimal_holds : Rows.PairwiseOptimalSaid :=
  OpenClaim.holds_of_wide 5 Tryz.f5 rfl rfl rfl rfl rfl rfl rfl ⟨rfl, rfl, rfl, rfl, rfl⟩ rfl rfl rfl rfl rfl (by kernel_rfl) Tryz.func5 (by kernel_rfl)
    (of_decide_eq_true (by kernel_rfl)) (by unfold Func.isWrapper; first | (rw [if_pos (by decide +kernel)]; kernel_rfl) | (rw [if_neg (by decide +kernel)]; exact ⟨rfl, rfl⟩))
    (fun os started H enc _ => optimal_lifted os started H enc)
theorem optimal_card : Rows.PairwiseOptimalCardSaid :=
  Claim7.holds_tied_plain_at .later [] [.data, .data, .data, .sentinel, .sentinel] true (true, "eeeb7ba5f59194c4fb892d9bd69c6f4887df1c3fcf5c3cbcdfbc4827380e6da7") true
    optimal_holds (fun _ h => by cases h) (by kernel_rfl) (fun _ h => by cases h) pairwiseOptimal_row_tie rfl ⟨rfl, rfl⟩ (by kernel_rfl) rfl
    (fun f fn hf hfn => by
      obtain rfl : f = 5 := Option.some.inj ((show Tryz.prog.funcNamed "apograph/apographlaw18.PairwiseOptimal" = some 5 by kernel_rfl).symm.trans hf) |>.symm
      obtain rfl : fn = Tryz.f5 := (Option.some.inj (Tryz.func5.symm.trans hfn)).symm
      exact ⟨by kernel_rfl, fun j t ht => by
        have ht' : [23, 24, 24, 40][j]? = some t := by rw [Tryz.params5] at ht; simpa using ht
        have hm := List.mem_of_getElem? ht'
        simp only [List.mem_cons, List.mem_nil_iff, or_false] at hm
        rcases hm with rfl | rfl | rfl | rfl <;> exact (show Tryz.prog.wantsStandIn _ = false by kernel_rfl)⟩)
    (by kernel_rfl)
#print axioms optimal_card
end Go.Proofs.YtmcgificpaeipaaGreatDoor
