/- The law PairwiseCounts holds for whatever costs and tokens: the tied card of its row. No condition beyond the row's own. -/
import Derived.Test.YtmcgificpaeipaaGreatDoorJ4
import Derived.Test.YtmcgificpaeipaaGreatDoorCards
import Derived.Test.YtmcgificpaeipaaGreatDoorTie
set_option linter.unusedVariables false
set_option linter.unusedSimpArgs false
namespace Go.Proofs.YtmcgificpaeipaaGreatDoor
open Go.RowKit Go.Shelf Go.ChangeShapes Go.WideShapes Go.Proofs
set_option maxRecDepth 100000
set_option maxHeartbeats 1000000

theorem gapC_twice_np {c : Costs} {t : Tok} (h : hasN t.flags 8 = false) : gapC (twiceC c) t = 2 * gapC c t := by
  unfold gapC twiceC; rw [h]; simp
theorem grd_dbl {c : Costs} {a b : List Tok} (ha : ∀ t ∈ a, hasN t.flags 8 = false) (hb : ∀ t ∈ b, hasN t.flags 8 = false) : Dbl (grdOf c a b) (grdOf (twiceC c) a b) :=
  ⟨rfl, rfl, fun i k _ _ => pairC_twice c _ _, fun i hi => gapC_twice_np (ha _ (tkA_mem hi)), fun k hk => gapC_twice_np (hb _ (tkA_mem hk))⟩
theorem counts1_spec (t : Tok) (h0 : 0 ≤ t.flags ∧ t.flags ≤ 31) (w : World) : Spec Tryz.prog 29 [t.val] w (fun v R => v = .bool (hasN t.flags 8) ∧ R = []) := by
  refine spec_of sg Tryz.func29 rfl rfl rfl ?_
  repeat' (first | (show T _ (.ops _ (⟨_, .box _ _, _, _, _, _⟩ :: _) :: _) _ _ _; refine T_op (OpT.box (cs := t.cells) rfl rfl rfl rfl rfl rfl rfl (fun _ => ?_))) | refine d1 ?_ | refine dd ?_ | (show ∀ _ : Nat, T _ _ _ _ _; intro _) | (show T _ (.code .ret :: _) _ _ _; refine T_retV [] rfl (Hle.none _) ⟨congrArg Value.bool ?_, rfl⟩))
  rw [← (flags_law t.flags h0).2.1]; simp
theorem countsLaw_spec (c : Costs) (A B : Option Addr) (ca cb : Nat) (a b : List Tok) (w : World) (hst : Std w) (ha : Src w 6 A a.length (a.flatMap Tok.cells)) (hna : a.length ≤ 9223372036854775807)
    (hb : Src w 6 B b.length (b.flatMap Tok.cells)) (hnb : b.length ≤ 9223372036854775807) :
    Spec Tryz.prog 7 [c.val, .slice A a.length ca, .slice B b.length cb] w (fun v R => v = .bool true ∧ R = []) := by
  refine spec_of sg Tryz.func7 rfl rfl rfl ?_
  refine T_op (OpT.box (cs := c.cells) rfl rfl rfl rfl rfl rfl rfl (fun pc => ?_))
  repeat' (first | refine d1 ?_ | refine dd ?_ | (show T _ (.ops _ (_ :: _) :: _) _ _ _; first | refine T_call rfl rfl rfl rfl rfl (fun w hw => fine18_spec c _ 2 _ [⟨A, a.length, ca, a⟩, ⟨B, b.length, cb, b⟩] w (Src.own hw rfl) rfl (by omega) (tsOk2 (rdSrc ha w hw) hna (rdSrc hb w hw) hnb)) ?_ | refine T_callC rfl rfl rfl rfl rfl rfl rfl (fun hg w hw => fine18_spec c _ 2 _ [⟨A, a.length, ca, a⟩, ⟨B, b.length, cb, b⟩] w (Src.own hw rfl) rfl (by omega) (tsOk2 (rdSrc ha w hw) hna (rdSrc hb w hw) hnb)) ?_) | (show T _ (.run _ _ (_ :: _) _ _ :: _) _ _ _; first | refine rc rfl rfl rfl rfl rfl rfl rfl (fun w hw => fine18_spec c _ 2 _ [⟨A, a.length, ca, a⟩, ⟨B, b.length, cb, b⟩] w (Src.own hw rfl) rfl (by omega) (tsOk2 (rdSrc ha w hw) hna (rdSrc hb w hw) hnb)) ?_ | refine rcG rfl rfl rfl rfl rfl rfl rfl rfl rfl (fun hg w hw => fine18_spec c _ 2 _ [⟨A, a.length, ca, a⟩, ⟨B, b.length, cb, b⟩] w (Src.own hw rfl) rfl (by omega) (tsOk2 (rdSrc ha w hw) hna (rdSrc hb w hw) hnb)) ?_) | (show ∀ _ : Nat, T _ _ _ _ _; intro _))
  refine T_if rfl (fun h => ?_) (fun h => ?_)
  · repeat' (first | refine d1 ?_ | refine dd ?_ | (show T _ (.ops _ (_ :: _) :: _) _ _ _; first | refine T_call rfl rfl rfl rfl rfl (fun w hw => awake18_spec w (hst.cls hw)) ?_ | refine T_callC rfl rfl rfl rfl rfl rfl rfl (fun hg w hw => awake18_spec w (hst.cls hw)) ?_) | (show T _ (.run _ _ (_ :: _) _ _ :: _) _ _ _; first | refine rc rfl rfl rfl rfl rfl rfl rfl (fun w hw => awake18_spec w (hst.cls hw)) ?_ | refine rcG rfl rfl rfl rfl rfl rfl rfl rfl rfl (fun hg w hw => awake18_spec w (hst.cls hw)) ?_) | (show ∀ _ : Nat, T _ _ _ _ _; intro _) | (show T _ (.code .ret :: _) _ _ _; refine T_retV [] rfl (Hle.none _) ⟨rfl, rfl⟩))
  simp only [Bool.or_eq_false_iff, Bool.not_eq_false', decide_eq_false_iff_not] at h
  obtain ⟨h2, hck, hla, hlb⟩ := two_of hst ha hb h.1
  obtain ⟨hc, ka, kb⟩ := ckV_ok hck
  obtain ⟨c1, c2, c3, c4, c5⟩ := costE_ok hc
  have hN : Two w none B 0 b.length [] b := ⟨hst, ⟨rfl, fun h => absurd h (by omega)⟩, rfl, by omega, hb, rfl, by omega, fun t ht => by simp at ht, h2.hsb⟩
  have hckN : ckV c [] b = 0 := ckV_of hc (fun t ht => by simp at ht) kb
  have n0 : countV c a b = (wys (grdOf c a b) 0 0, 0) := if_pos hck
  have nN : countV c [] b = (1, 0) := by unfold countV; rw [if_pos hckN, wys_one rfl]
  have hw1 := wys_bd (grdOf c a b) 0 0
  unfold big at hw1
  refine T_le (H' := [blk pc c.cells 23]) Hle.srt ?_
  repeat' (first | refine d1 ?_ | refine dd ?_ | (show T _ (.ops _ (_ :: _) :: _) _ _ _; first | refine T_call rfl rfl rfl rfl rfl (fun w hw => countPrg_spec c A B a.length b.length ca cb a b w (h2.cls hw)) ?_ | refine T_callC rfl rfl rfl rfl rfl rfl rfl (fun hg w hw => countPrg_spec c A B a.length b.length ca cb a b w (h2.cls hw)) ?_ | refine T_call rfl rfl rfl rfl rfl (fun w hw => countPrg_spec c none B 0 b.length 0 cb [] b w (hN.cls hw)) ?_ | refine T_callC rfl rfl rfl rfl rfl rfl rfl (fun hg w hw => countPrg_spec c none B 0 b.length 0 cb [] b w (hN.cls hw)) ?_) | (show T _ (.run _ _ (_ :: _) _ _ :: _) _ _ _; first | refine rc rfl rfl rfl rfl rfl rfl rfl (fun w hw => countPrg_spec c A B a.length b.length ca cb a b w (h2.cls hw)) ?_ | refine rcG rfl rfl rfl rfl rfl rfl rfl rfl rfl (fun hg w hw => countPrg_spec c A B a.length b.length ca cb a b w (h2.cls hw)) ?_ | refine rc rfl rfl rfl rfl rfl rfl rfl (fun w hw => countPrg_spec c none B 0 b.length 0 cb [] b w (hN.cls hw)) ?_ | refine rcG rfl rfl rfl rfl rfl rfl rfl rfl rfl (fun hg w hw => countPrg_spec c none B 0 b.length 0 cb [] b w (hN.cls hw)) ?_) | (show ∀ _ : Nat, T _ _ _ _ _; intro _))
  rw [n0, nN]
  refine T_if rfl (fun h3 => by exfalso; simp at h3; omega) (fun h3 => ?_)
  have hsum : sumT [⟨A, a.length, ca, a⟩, ⟨B, b.length, cb, b⟩] = a.length + b.length := by simp [sumT]
  repeat' (first | refine d1 ?_ | refine dd ?_ | (show T _ (.ops _ (_ :: _) :: _) _ _ _; refine T_callE rfl rfl rfl rfl rfl (fun w hw => concatT_spec _ 2 _ [⟨A, a.length, ca, a⟩, ⟨B, b.length, cb, b⟩] w (Src.own hw rfl) rfl (by omega) (tsOk2 (rdSrc ha w hw) hna (rdSrc hb w hw) hnb) (by rw [hsum]; omega)) (fun x _ => ?_)) | (show ∀ _ : Nat, T _ _ _ _ _; intro _))
  obtain ⟨Ac, cc⟩ := x
  have hcat : catT [⟨A, a.length, ca, a⟩, ⟨B, b.length, cb, b⟩] = a ++ b := by simp [catT]
  rw [hsum, hcat]
  have hkt : ∀ t ∈ a ++ b, tokE t = 0 := fun t ht => (List.mem_append.1 ht).elim (ka t) (kb t)
  repeat' (first | refine d1 ?_ | refine dd ?_ | (show T _ (.ops _ (_ :: _) :: _) _ _ _; first | refine T_call rfl rfl rfl rfl rfl (fun w hw => containsFuncT_spec Ac (a.length + b.length) cc (a ++ b) _ [] [] (fun t => hasN t.flags 8) w (srcRowH (e := 48) (cap := cc) hw) (by rw [List.length_append]) (by omega) (fun x hx w' hb' => counts1_spec x (tokE_ok (hkt x hx)).1 w')) ?_ | refine T_callC rfl rfl rfl rfl rfl rfl rfl (fun hg w hw => containsFuncT_spec Ac (a.length + b.length) cc (a ++ b) _ [] [] (fun t => hasN t.flags 8) w (srcRowH (e := 48) (cap := cc) hw) (by rw [List.length_append]) (by omega) (fun x hx w' hb' => counts1_spec x (tokE_ok (hkt x hx)).1 w')) ?_) | (show T _ (.run _ _ (_ :: _) _ _ :: _) _ _ _; first | refine rc rfl rfl rfl rfl rfl rfl rfl (fun w hw => containsFuncT_spec Ac (a.length + b.length) cc (a ++ b) _ [] [] (fun t => hasN t.flags 8) w (srcRowH (e := 48) (cap := cc) hw) (by rw [List.length_append]) (by omega) (fun x hx w' hb' => counts1_spec x (tokE_ok (hkt x hx)).1 w')) ?_ | refine rcG rfl rfl rfl rfl rfl rfl rfl rfl rfl (fun hg w hw => containsFuncT_spec Ac (a.length + b.length) cc (a ++ b) _ [] [] (fun t => hasN t.flags 8) w (srcRowH (e := 48) (cap := cc) hw) (by rw [List.length_append]) (by omega) (fun x hx w' hb' => counts1_spec x (tokE_ok (hkt x hx)).1 w')) ?_) | (show ∀ _ : Nat, T _ _ _ _ _; intro _))
  refine T_if rfl (fun h4 => ?_) (fun h4 => ?_)
  · repeat' (first | refine d1 ?_ | refine dd ?_ | (show T _ (.ops _ (_ :: _) :: _) _ _ _; first | refine T_call rfl rfl rfl rfl rfl (fun w hw => awake18_spec w (hst.cls hw)) ?_ | refine T_callC rfl rfl rfl rfl rfl rfl rfl (fun hg w hw => awake18_spec w (hst.cls hw)) ?_) | (show T _ (.run _ _ (_ :: _) _ _ :: _) _ _ _; first | refine rc rfl rfl rfl rfl rfl rfl rfl (fun w hw => awake18_spec w (hst.cls hw)) ?_ | refine rcG rfl rfl rfl rfl rfl rfl rfl rfl rfl (fun hg w hw => awake18_spec w (hst.cls hw)) ?_) | (show ∀ _ : Nat, T _ _ _ _ _; intro _) | (show T _ (.code .ret :: _) _ _ _; refine T_retV [] rfl (Hle.none _) ⟨rfl, rfl⟩))
  have hnp : ∀ t ∈ a ++ b, hasN t.flags 8 = false := fun t ht => by
    rw [List.any_eq_false] at h4
    simpa using h4 t ht
  have hc2 : costE (twiceC c) = 0 := (costE_twice hc).resolve_right (by omega)
  have hck2 : ckV (twiceC c) a b = 0 := ckV_of hc2 ka kb
  have hdb : Dbl (grdOf c a b) (grdOf (twiceC c) a b) := grd_dbl (fun t ht => hnp t (List.mem_append_left _ ht)) (fun t ht => hnp t (List.mem_append_right _ ht))
  have e1 : alignV c a b = (aln (grdOf c a b) 0 0, rst (grdOf c a b) 0 0, 0) := if_pos hck
  have e2 : alignV (twiceC c) a b = (aln (grdOf c a b) 0 0, 2 * rst (grdOf c a b) 0 0, 0) := by unfold alignV; rw [if_pos hck2, aln_dbl hdb, rst_dbl hdb]
  have n2 : countV (twiceC c) a b = (wys (grdOf c a b) 0 0, 0) := by unfold countV; rw [if_pos hck2, wys_dbl hdb]
  have hrb := rst_bd2 (grdOf_ok hc a b) h2.hn h2.hm h2.hnb h2.hmb 0 0
  refine T_le (H' := [blk pc c.cells 23]) Hle.srt ?_
  repeat' (first | refine d1 ?_ | refine dd ?_ | (show T _ (.ops _ (_ :: _) :: _) _ _ _; first | refine T_op (OpT.storeA rfl rfl rfl rfl rfl rfl (by decide) ?_) | refine T_op (OpT.call rfl rfl rfl rfl rfl (fun w hw => alignPrg_spec c A B a.length b.length ca cb a b w (h2.cls hw)) ?_)) | (show ∀ _ : Nat, T _ _ _ _ _; intro _))
  rename_i p2
  rintro v R ⟨x, -, rfl, rfl⟩
  rw [e1]
  refine T_le (H' := [dat [x] [rowsD (aln (grdOf c a b) 0 0)], blk p2 (twiceC c).cells 23, blk pc c.cells 23]) (Hle.refl _) ?_
  refine T_open fun p hp => ?_
  repeat' (first | refine d1 ?_ | refine dd ?_ | (show T _ (.ops _ (_ :: _) :: _) _ _ _; refine T_op (OpT.call rfl rfl rfl rfl rfl (fun w hw => alignPrg_spec (twiceC c) A B a.length b.length ca cb a b w (h2.cls hw)) ?_)) | (show ∀ _ : Nat, T _ _ _ _ _; intro _))
  rintro v R ⟨y, -, rfl, rfl⟩
  rw [e2]
  refine T_le (H' := [dat [y] [rowsD (aln (grdOf c a b) 0 0)], fz p, blk p2 (twiceC c).cells 23, blk pc c.cells 23]) (Hle.refl _) ?_
  refine T_open fun q hq => ?_
  repeat' (first | refine d1 ?_ | refine dd ?_ | (show T _ (.ops _ (_ :: _) :: _) _ _ _; first | refine T_call rfl rfl rfl rfl rfl (fun w hw => countPrg_spec (twiceC c) A B a.length b.length ca cb a b w (h2.cls hw)) ?_ | refine T_callC rfl rfl rfl rfl rfl rfl rfl (fun hg w hw => countPrg_spec (twiceC c) A B a.length b.length ca cb a b w (h2.cls hw)) ?_ | refine T_call rfl rfl rfl rfl rfl (fun w hw => sameCols_spec x y _ _ w (hp.own hw) (hq.own hw)) ?_ | refine T_callC rfl rfl rfl rfl rfl rfl rfl (fun hg w hw => sameCols_spec x y _ _ w (hp.own hw) (hq.own hw)) ?_ | refine T_call rfl rfl rfl rfl rfl (fun w hw => awake18_spec w (hst.cls hw)) ?_ | refine T_callC rfl rfl rfl rfl rfl rfl rfl (fun hg w hw => awake18_spec w (hst.cls hw)) ?_) | (show T _ (.run _ _ (_ :: _) _ _ :: _) _ _ _; first | refine rc rfl rfl rfl rfl rfl rfl rfl (fun w hw => countPrg_spec (twiceC c) A B a.length b.length ca cb a b w (h2.cls hw)) ?_ | refine rcG rfl rfl rfl rfl rfl rfl rfl rfl rfl (fun hg w hw => countPrg_spec (twiceC c) A B a.length b.length ca cb a b w (h2.cls hw)) ?_ | refine rc rfl rfl rfl rfl rfl rfl rfl (fun w hw => sameCols_spec x y _ _ w (hp.own hw) (hq.own hw)) ?_ | refine rcG rfl rfl rfl rfl rfl rfl rfl rfl rfl (fun hg w hw => sameCols_spec x y _ _ w (hp.own hw) (hq.own hw)) ?_ | refine rc rfl rfl rfl rfl rfl rfl rfl (fun w hw => awake18_spec w (hst.cls hw)) ?_ | refine rcG rfl rfl rfl rfl rfl rfl rfl rfl rfl (fun hg w hw => awake18_spec w (hst.cls hw)) ?_) | (show ∀ _ : Nat, T _ _ _ _ _; intro _) | (show T _ (.code .ret :: _) _ _ _; refine T_retV [] rfl (Hle.none _) ⟨congrArg Value.bool ?_, rfl⟩))
  rw [n2]
  simp
theorem counts_met (os : Os) (args : Array Value) : laidMetH Tryz.prog Rows.pairwiseCountsRow.laid ((World.doorLaid Tryz.prog 400 os).forCall (fun _ _ => 0) ⟨#[], args, []⟩).memory :=
  laidMetH_of_parts3 (fuel := 8) (laidMet_of_run' 8 (by kernel_rfl) (by kernel_rfl)) (by kernel_rfl) (by kernel_rfl)
theorem counts_lifted (os : Os) (started : os.Started) (H : Type) (enc : TypeId × Value → H) :
    ReturnsInHanded {} Tryz.checked os 7 .any (fun w args => (Rows.pairwiseCountsSpec.pre enc Tryz.prog Tryz.f7 [] false w args ∧ laidMetH Tryz.prog Rows.pairwiseCountsRow.laid w) ∧ sizedMet enc Tryz.prog Tryz.f7 (OpenSpec.ofChange Rows.pairwiseCountsSpec) false w args)
      (Rows.pairwiseCountsSpec.post enc Tryz.prog Tryz.f7 false true false false) := by
  refine returnsInHanded_of_change_and (C := Tryz.checked) (X := fun w _ => laidMetH Tryz.prog Rows.pairwiseCountsRow.laid w) (fun _ _ _ hh h => h.of_heap hh) knob started (by kernel_rfl) Tryz.func7
    (ChangeSpec.witness_shaped (enc := enc) (C := Tryz.checked) (os := os) (X := fun w _ => laidMetH Tryz.prog Rows.pairwiseCountsRow.laid w) false (World.doorLaid Tryz.prog 400 os) #[(⟨0, 0, 0, 0⟩ : Costs).val, .slice none 0 0, .slice none 0 0] 8 rfl (World.shaped_of_RefB (by kernel_rfl) (by kernel_rfl)) (by kernel_rfl) (by kernel_rfl) (by kernel_rfl) (counts_met os _)) ?_
  intro W base args ds gs before hval0 hW _ _ hL _
  have hval : ∀ (j : Nat) t v, Tryz.f7.params[j]? = some t → args[j]? = some v → Value.okWide Tryz.prog W .any base t v := hval0
  have hstd := std_of (show laidMetH Tryz.prog laids W from hL)
  have hW' := hW
  obtain ⟨p, q, hA0, hV, rfl, hfz, hnd⟩ := hW
  have hA : DataW.TrodAll enc Tryz.prog W 0 (fun _ => true) true Tryz.f7.params.toList args.toList ds p := hA0
  obtain ⟨v0, vs0, d0, ds0, p0, q0, e0, rfl, rfl, h0, hA⟩ := trodAll_cons hA
  obtain ⟨v1, vs1, d1, ds1, p1, q1, rfl, rfl, rfl, h1, hA⟩ := trodAll_cons hA
  obtain ⟨v2, vs2, d2, ds2, p2, q2, rfl, rfl, rfl, h2, hA⟩ := trodAll_cons hA
  obtain ⟨rfl, rfl, rfl⟩ := trodAll_nil hA
  have ea : args = #[v0, v1, v2] := Array.ext' e0
  subst ea
  obtain ⟨c, rfl⟩ := arg_costs (hval 0 _ v0 rfl rfl) h0
  obtain ⟨A_a, cap_a, a, rfl, hb_a, hs_a⟩ := arg_toks (hval 1 _ v1 rfl rfl) h1
  obtain ⟨A_b, cap_b, b, rfl, hb_b, hs_b⟩ := arg_toks (hval 2 _ v2 rfl rfl) h2
  refine (countsLaw_spec c A_a A_b cap_a cap_b a b W hstd hs_a hb_a hs_b hb_b).calls.mono ?_
  rintro e W' ⟨v, A, rfl, ⟨rfl, _⟩, hb, _⟩
  exact ⟨_, rfl, law_post hW' rfl rfl laidOk (by intro t ht; simp only [show Tryz.f7.params.toList = [23, 24, 24] from rfl, List.mem_cons, List.mem_nil_iff, or_false] at ht; rcases ht with rfl | rfl | rfl <;> exact ⟨by kernel_rfl, of_decide_eq_true (by kernel_rfl)⟩) rfl Tryz.underlying4 hb⟩
theorem counts_holds : Rows.PairwiseCountsSaid :=
  OpenClaim.holds_of_wide 7 Tryz.f7 rfl rfl rfl rfl rfl rfl rfl ⟨rfl, rfl, rfl, rfl, rfl⟩ rfl rfl rfl rfl rfl (by kernel_rfl) Tryz.func7 (by kernel_rfl)
    (of_decide_eq_true (by kernel_rfl)) (by unfold Func.isWrapper; first | (rw [if_pos (by decide +kernel)]; kernel_rfl) | (rw [if_neg (by decide +kernel)]; exact ⟨rfl, rfl⟩))
    (fun os started H enc _ => counts_lifted os started H enc)
theorem counts_card : Rows.PairwiseCountsCardSaid :=
  Claim7.holds_tied_plain_at .later [] [.data, .data, .data, .sentinel, .sentinel] true (true, "eeeb7ba5f59194c4fb892d9bd69c6f4887df1c3fcf5c3cbcdfbc4827380e6da7") true
    counts_holds (fun _ h => by cases h) (by kernel_rfl) (fun _ h => by cases h) pairwiseCounts_row_tie rfl ⟨rfl, rfl⟩ (by kernel_rfl) rfl
    (fun f fn hf hfn => by
      obtain rfl : f = 7 := Option.some.inj ((show Tryz.prog.funcNamed "apograph/apographlaw18.PairwiseCounts" = some 7 by kernel_rfl).symm.trans hf) |>.symm
      obtain rfl : fn = Tryz.f7 := (Option.some.inj (Tryz.func7.symm.trans hfn)).symm
      exact ⟨by kernel_rfl, fun j t ht => by
        have ht' : [23, 24, 24][j]? = some t := by rw [Tryz.params7] at ht; simpa using ht
        have hm := List.mem_of_getElem? ht'
        simp only [List.mem_cons, List.mem_nil_iff, or_false] at hm
        rcases hm with rfl | rfl | rfl <;> exact (show Tryz.prog.wantsStandIn _ = false by kernel_rfl)⟩)
    (by kernel_rfl)
#print axioms counts_card
end Go.Proofs.YtmcgificpaeipaaGreatDoor
