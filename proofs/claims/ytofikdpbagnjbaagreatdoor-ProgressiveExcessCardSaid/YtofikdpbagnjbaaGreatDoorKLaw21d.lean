/- The law ProgressiveExcess holds for whatever costs, sources and columns: the tied card of its row. No condition beyond the row's own. -/
import Derived.Test.YtofikdpbagnjbaaGreatDoorJ4
import Derived.Test.YtofikdpbagnjbaaGreatDoorCards
import Derived.Test.YtofikdpbagnjbaaGreatDoorTie
set_option linter.unusedVariables false
set_option linter.unusedSimpArgs false
namespace Go.Proofs.YtofikdpbagnjbaaGreatDoor
open Go.RowKit Go.Shelf Go.ChangeShapes Go.WideShapes Go.Proofs
set_option maxRecDepth 100000
set_option maxHeartbeats 1000000

theorem excess_ge {c : Costs} {l : List TS} (hln : ∀ t ∈ l, t.l.length = t.n) {cols : List (List Int)} (h : ColsOk (lens l) cols) : ssum (dstT c l) l.length l.length ≤ totZ c l cols := by
  rw [ssum_eq]; exact totZ_ge hln h
theorem excessLaw_spec (c : Costs) (x : Value) (m : List (List Tok)) (y : Value) (cols : List (List Int)) (w : World) (hst : Std w) (hx : Rd (wr w) [x] [.s 1 (m.map toksD)]) (hy : Rd (wr w) [y] [rowsD cols]) :
    Spec Tryz.prog 6 [c.val, x, y] w (fun v R => v = .bool true ∧ R = []) := by
  obtain ⟨A, ca, l, rfl, hnb, hs, hl, -⟩ := hx.toksL
  refine spec_of sg Tryz.func6 rfl rfl rfl ?_
  refine T_op (OpT.box (cs := c.cells) rfl rfl rfl rfl rfl rfl rfl (fun pc => ?_))
  by_cases hf : fineV c l = true
  · obtain ⟨hc, hgr, hbs, hck⟩ := fineV_ok hf
    obtain ⟨hgp, hn4, hq⟩ := Grp.of hst hs rfl hl hgr
    have hq' : ∀ t ∈ l, t.n ≤ 100 := fun t ht => by have := hq t ht; omega
    repeat' (first | refine d1 ?_ | refine dd ?_ | (show T _ (.ops _ (_ :: _) :: _) _ _ _; first | refine T_call rfl rfl rfl rfl rfl (fun w hw => fine21_spec c A l.length ca l w (rdSrc hs w hw) rfl hnb ⟨fun t ht => src_below (hl.src t ht) hw.below, hl.len, hl.bd⟩) ?_ | refine T_callC rfl rfl rfl rfl rfl rfl rfl (fun hg w hw => fine21_spec c A l.length ca l w (rdSrc hs w hw) rfl hnb ⟨fun t ht => src_below (hl.src t ht) hw.below, hl.len, hl.bd⟩) ?_ | refine T_call rfl rfl rfl rfl rfl (fun w hw => greatC_spec y cols w (hy.old hw)) ?_ | refine T_callC rfl rfl rfl rfl rfl rfl rfl (fun hg w hw => greatC_spec y cols w (hy.old hw)) ?_ | refine T_call rfl rfl rfl rfl rfl (fun w hw => check19_spec A l.length ca l y cols w (hgp.cls hw) (hy.old hw)) ?_ | refine T_callC rfl rfl rfl rfl rfl rfl rfl (fun hg w hw => check19_spec A l.length ca l y cols w (hgp.cls hw) (hy.old hw)) ?_) | (show T _ (.run _ _ (_ :: _) _ _ :: _) _ _ _; first | refine rc rfl rfl rfl rfl rfl rfl rfl (fun w hw => fine21_spec c A l.length ca l w (rdSrc hs w hw) rfl hnb ⟨fun t ht => src_below (hl.src t ht) hw.below, hl.len, hl.bd⟩) ?_ | refine rcG rfl rfl rfl rfl rfl rfl rfl rfl rfl (fun hg w hw => fine21_spec c A l.length ca l w (rdSrc hs w hw) rfl hnb ⟨fun t ht => src_below (hl.src t ht) hw.below, hl.len, hl.bd⟩) ?_ | refine rc rfl rfl rfl rfl rfl rfl rfl (fun w hw => greatC_spec y cols w (hy.old hw)) ?_ | refine rcG rfl rfl rfl rfl rfl rfl rfl rfl rfl (fun hg w hw => greatC_spec y cols w (hy.old hw)) ?_ | refine rc rfl rfl rfl rfl rfl rfl rfl (fun w hw => check19_spec A l.length ca l y cols w (hgp.cls hw) (hy.old hw)) ?_ | refine rcG rfl rfl rfl rfl rfl rfl rfl rfl rfl (fun hg w hw => check19_spec A l.length ca l y cols w (hgp.cls hw) (hy.old hw)) ?_) | (show ∀ _ : Nat, T _ _ _ _ _; intro _))
    refine T_if rfl (fun h => ?_) (fun h => ?_)
    · repeat' (first | refine d1 ?_ | refine dd ?_ | (show T _ (.ops _ (_ :: _) :: _) _ _ _; first | refine T_call rfl rfl rfl rfl rfl (fun w hw => awake21_spec w (hst.cls hw)) ?_ | refine T_callC rfl rfl rfl rfl rfl rfl rfl (fun hg w hw => awake21_spec w (hst.cls hw)) ?_) | (show T _ (.run _ _ (_ :: _) _ _ :: _) _ _ _; first | refine rc rfl rfl rfl rfl rfl rfl rfl (fun w hw => awake21_spec w (hst.cls hw)) ?_ | refine rcG rfl rfl rfl rfl rfl rfl rfl rfl rfl (fun hg w hw => awake21_spec w (hst.cls hw)) ?_) | (show ∀ _ : Nat, T _ _ _ _ _; intro _) | (show T _ (.code .ret :: _) _ _ _; refine T_retV [] rfl (Hle.none _) ⟨rfl, rfl⟩))
    have h2 : greatC cols = false ∧ chkC l cols = 0 := by
      rw [hf] at h
      by_cases h9 : greatC cols = true
      · rw [h9] at h; simp at h
      · simp only [Bool.not_eq_true] at h9
        rw [h9] at h
        exact ⟨h9, by simpa using h⟩
    obtain ⟨h2, h3⟩ := h2
    have hsz := (greatC_no h2).2
    have h0 : l.length ≠ 0 := fun h9 => by rw [chkC_zero h9] at h3; omega
    have hok : ColsOk (lens l) cols := Classical.byContradiction fun h9 => by rw [chkC_bad h0 h9] at h3; omega
    have hus : usV c l = 0 := by unfold usV; rw [if_neg h0, hck]
    have hal : alV l cols = 0 := by unfold alV; rw [if_neg (fun h9 => h0 h9.1), if_pos h3]
    have e1 : excV c l cols = (totZ c l cols - ssum (dstT c l) l.length l.length, 0) := by unfold excV; rw [if_neg (by simpa using hck), if_neg (by simpa using hal), if_neg (by simpa using hus)]
    have e2 : boundW c l = (ssum (dstT c l) l.length l.length, 0) := if_neg (by simpa using hus)
    have e3 : costW c l cols = (totZ c l cols, 0) := by unfold costW; rw [if_neg (by simpa using hus), if_pos (okC_true hok)]
    have hge := excess_ge (c := c) hl.len hok
    have f1 : (excV c l cols).1 = totZ c l cols - ssum (dstT c l) l.length l.length := by rw [e1]
    have f2 : (boundW c l).1 = ssum (dstT c l) l.length l.length := by rw [e2]
    have f3 : (costW c l cols).1 = totZ c l cols := by rw [e3]
    have hbd := dstT_bd2 hc (l := l) (fun t ht => by rw [hgp.ok.len t ht]; exact hq' t ht)
    have s1 := ssum_bd (M := 200000) (by omega) hbd l.length l.length
    have s2 : (200000 * (l.length : Int)) * (l.length : Int) ≤ (200000 * 32) * 32 := Int.mul_le_mul (by omega) (by omega) (by omega) (by omega)
    have s3 := totZ_bd hc (l := l) (by omega) cols
    repeat' (first | refine d1 ?_ | refine dd ?_ | (show T _ (.ops _ (_ :: _) :: _) _ _ _; first | refine T_call rfl rfl rfl rfl rfl (fun w hw => excess21_spec c A l.length ca l y cols w (hgp.cls hw) hq' (hy.old hw) (by omega)) ?_ | refine T_callC rfl rfl rfl rfl rfl rfl rfl (fun hg w hw => excess21_spec c A l.length ca l y cols w (hgp.cls hw) hq' (hy.old hw) (by omega)) ?_ | refine T_call rfl rfl rfl rfl rfl (fun w hw => bound19_spec c A l.length ca l w (hgp.cls hw) hq') ?_ | refine T_callC rfl rfl rfl rfl rfl rfl rfl (fun hg w hw => bound19_spec c A l.length ca l w (hgp.cls hw) hq') ?_ | refine T_call rfl rfl rfl rfl rfl (fun w hw => costSum19_spec c A l.length ca l y cols w (hgp.cls hw) (hy.old hw) (by omega)) ?_ | refine T_callC rfl rfl rfl rfl rfl rfl rfl (fun hg w hw => costSum19_spec c A l.length ca l y cols w (hgp.cls hw) (hy.old hw) (by omega)) ?_ | refine T_call rfl rfl rfl rfl rfl (fun w hw => awake21_spec w (hst.cls hw)) ?_ | refine T_callC rfl rfl rfl rfl rfl rfl rfl (fun hg w hw => awake21_spec w (hst.cls hw)) ?_) | (show T _ (.run _ _ (_ :: _) _ _ :: _) _ _ _; first | refine rc rfl rfl rfl rfl rfl rfl rfl (fun w hw => excess21_spec c A l.length ca l y cols w (hgp.cls hw) hq' (hy.old hw) (by omega)) ?_ | refine rcG rfl rfl rfl rfl rfl rfl rfl rfl rfl (fun hg w hw => excess21_spec c A l.length ca l y cols w (hgp.cls hw) hq' (hy.old hw) (by omega)) ?_ | refine rc rfl rfl rfl rfl rfl rfl rfl (fun w hw => bound19_spec c A l.length ca l w (hgp.cls hw) hq') ?_ | refine rcG rfl rfl rfl rfl rfl rfl rfl rfl rfl (fun hg w hw => bound19_spec c A l.length ca l w (hgp.cls hw) hq') ?_ | refine rc rfl rfl rfl rfl rfl rfl rfl (fun w hw => costSum19_spec c A l.length ca l y cols w (hgp.cls hw) (hy.old hw) (by omega)) ?_ | refine rcG rfl rfl rfl rfl rfl rfl rfl rfl rfl (fun hg w hw => costSum19_spec c A l.length ca l y cols w (hgp.cls hw) (hy.old hw) (by omega)) ?_ | refine rc rfl rfl rfl rfl rfl rfl rfl (fun w hw => awake21_spec w (hst.cls hw)) ?_ | refine rcG rfl rfl rfl rfl rfl rfl rfl rfl rfl (fun hg w hw => awake21_spec w (hst.cls hw)) ?_) | (show ∀ _ : Nat, T _ _ _ _ _; intro _) | (show T _ (.code .ret :: _) _ _ _; refine T_retV [] rfl (Hle.none _) ⟨congrArg Value.bool ?_, rfl⟩))
    rw [e1, e2, e3]
    simp
    omega
  · simp only [Bool.not_eq_true] at hf
    repeat' (first | refine d1 ?_ | refine dd ?_ | (show T _ (.ops _ (_ :: _) :: _) _ _ _; first | refine T_call rfl rfl rfl rfl rfl (fun w hw => fine21_spec c A l.length ca l w (rdSrc hs w hw) rfl hnb ⟨fun t ht => src_below (hl.src t ht) hw.below, hl.len, hl.bd⟩) ?_ | refine T_callC rfl rfl rfl rfl rfl rfl rfl (fun hg w hw => fine21_spec c A l.length ca l w (rdSrc hs w hw) rfl hnb ⟨fun t ht => src_below (hl.src t ht) hw.below, hl.len, hl.bd⟩) ?_ | refine T_call rfl rfl rfl rfl rfl (fun w hw => greatC_spec y cols w (hy.old hw)) ?_ | refine T_callC rfl rfl rfl rfl rfl rfl rfl (fun hg w hw => greatC_spec y cols w (hy.old hw)) ?_ | refine T_op (OpT.never (.int .i64 0) rfl (fun hg => by (simp only [List.cons_append, List.nil_append, GP, dstL, lookE, Nat.beq, cond, List.getElem?_cons_zero, List.getElem?_cons_succ, Option.bind_some, and_true, Bool.and_eq_true, Bool.or_eq_true, Bool.and_eq_false_iff, Bool.or_eq_false_iff, Bool.not_eq_true', Bool.not_eq_false', decide_eq_true_eq, decide_eq_false_iff_not] at hg); simp [hf] at hg) rfl rfl rfl rfl rfl ?_)) | (show T _ (.run _ _ (_ :: _) _ _ :: _) _ _ _; first | refine rc rfl rfl rfl rfl rfl rfl rfl (fun w hw => fine21_spec c A l.length ca l w (rdSrc hs w hw) rfl hnb ⟨fun t ht => src_below (hl.src t ht) hw.below, hl.len, hl.bd⟩) ?_ | refine rcG rfl rfl rfl rfl rfl rfl rfl rfl rfl (fun hg w hw => fine21_spec c A l.length ca l w (rdSrc hs w hw) rfl hnb ⟨fun t ht => src_below (hl.src t ht) hw.below, hl.len, hl.bd⟩) ?_ | refine rc rfl rfl rfl rfl rfl rfl rfl (fun w hw => greatC_spec y cols w (hy.old hw)) ?_ | refine rcG rfl rfl rfl rfl rfl rfl rfl rfl rfl (fun hg w hw => greatC_spec y cols w (hy.old hw)) ?_) | (show ∀ _ : Nat, T _ _ _ _ _; intro _))
    refine T_if rfl (fun h => ?_) (fun h => by exfalso; rw [hf] at h; simp at h)
    repeat' (first | refine d1 ?_ | refine dd ?_ | (show T _ (.ops _ (_ :: _) :: _) _ _ _; first | refine T_call rfl rfl rfl rfl rfl (fun w hw => awake21_spec w (hst.cls hw)) ?_ | refine T_callC rfl rfl rfl rfl rfl rfl rfl (fun hg w hw => awake21_spec w (hst.cls hw)) ?_) | (show T _ (.run _ _ (_ :: _) _ _ :: _) _ _ _; first | refine rc rfl rfl rfl rfl rfl rfl rfl (fun w hw => awake21_spec w (hst.cls hw)) ?_ | refine rcG rfl rfl rfl rfl rfl rfl rfl rfl rfl (fun hg w hw => awake21_spec w (hst.cls hw)) ?_) | (show ∀ _ : Nat, T _ _ _ _ _; intro _) | (show T _ (.code .ret :: _) _ _ _; refine T_retV [] rfl (Hle.none _) ⟨rfl, rfl⟩))
theorem excess_met (os : Os) (args : Array Value) : laidMetH Tryz.prog Rows.progressiveExcessRow.laid ((World.doorLaid Tryz.prog 400 os).forCall (fun _ _ => 0) ⟨#[], args, []⟩).memory :=
  laidMetH_of_parts3 (fuel := 8) (laidMet_of_run' 8 (by as_aux_lemma => kernel_rfl) (by as_aux_lemma => kernel_rfl)) (by as_aux_lemma => kernel_rfl) (by as_aux_lemma => kernel_rfl)
theorem excess_lifted (os : Os) (started : os.Started) (H : Type) (enc : TypeId × Value → H) :
    ReturnsInHanded {} Tryz.checked os 6 .any (fun w args => (Rows.progressiveExcessSpec.pre enc Tryz.prog Tryz.f6 [] false w args ∧ laidMetH Tryz.prog Rows.progressiveExcessRow.laid w) ∧ sizedMet enc Tryz.prog Tryz.f6 (OpenSpec.ofChange Rows.progressiveExcessSpec) false w args)
      (Rows.progressiveExcessSpec.post enc Tryz.prog Tryz.f6 false true false false) := by
  refine returnsInHanded_of_change_and (C := Tryz.checked) (X := fun w _ => laidMetH Tryz.prog Rows.progressiveExcessRow.laid w) (fun _ _ _ hh h => h.of_heap hh) knob started (by as_aux_lemma => kernel_rfl) Tryz.func6
    (ChangeSpec.witness_shaped (enc := enc) (C := Tryz.checked) (os := os) (X := fun w _ => laidMetH Tryz.prog Rows.progressiveExcessRow.laid w) false (World.doorLaid Tryz.prog 400 os) #[(⟨0, 0, 0, 0⟩ : Costs).val, .slice none 0 0, .slice none 0 0] 8 rfl (World.shaped_of_RefB (by as_aux_lemma => kernel_rfl) (by as_aux_lemma => kernel_rfl)) (by as_aux_lemma => kernel_rfl) (by as_aux_lemma => kernel_rfl) (by as_aux_lemma => kernel_rfl) (excess_met os _)) ?_
  intro W base args ds gs before hval0 hW _ _ hL _
  have hval : ∀ (j : Nat) t v, Tryz.f6.params[j]? = some t → args[j]? = some v → Value.okWide Tryz.prog W .any base t v := hval0
  have hstd := std_of (show laidMetH Tryz.prog laids W from hL)
  have hW' := hW
  obtain ⟨p, q, hA0, hV, rfl, hfz, hnd⟩ := hW
  have hA : DataW.TrodAll enc Tryz.prog W 0 (fun _ => true) true Tryz.f6.params.toList args.toList ds p := hA0
  obtain ⟨v0, vs0, d0, ds0, p0, q0, e0, rfl, rfl, h0, hA⟩ := trodAll_cons hA
  obtain ⟨v1, vs1, d1, ds1, p1, q1, rfl, rfl, rfl, h1, hA⟩ := trodAll_cons hA
  obtain ⟨v2, vs2, d2, ds2, p2, q2, rfl, rfl, rfl, h2, hA⟩ := trodAll_cons hA
  obtain ⟨rfl, rfl, rfl⟩ := trodAll_nil hA
  have ea : args = #[v0, v1, v2] := Array.ext' e0
  subst ea
  obtain ⟨c, rfl⟩ := arg_costs (hval 0 _ v0 rfl rfl) h0
  obtain ⟨l, hr_l⟩ := arg_toksL (hval 1 _ v1 rfl rfl) h1
  obtain ⟨cols, hr_cols⟩ := arg_rows (hval 2 _ v2 rfl rfl) h2
  refine (excessLaw_spec c v1 l v2 cols W hstd hr_l hr_cols).calls.mono ?_
  rintro e W' ⟨v, A, rfl, ⟨rfl, _⟩, hb, _⟩
  exact ⟨_, rfl, law_post hW' rfl rfl laidOk (by intro t ht; simp only [show Tryz.f6.params.toList = [23, 24, 31] from rfl, List.mem_cons, List.mem_nil_iff, or_false] at ht; rcases ht with rfl | rfl | rfl <;> exact ⟨by as_aux_lemma => kernel_rfl, of_decide_eq_true (by as_aux_lemma => kernel_rfl)⟩) rfl Tryz.underlying4 hb⟩
theorem excess_j0 : Tryz.prog.inPlace 6 = Rows.progressiveExcessRow.inPlace := by as_aux_lemma => kernel_rfl
theorem excess_j1 : Tryz.prog.unfollowed 6 = Rows.progressiveExcessRow.unfollowed := by as_aux_lemma => kernel_rfl
theorem excess_j2 : Tryz.prog.recurses 6 = Rows.progressiveExcessRow.recurses := by as_aux_lemma => kernel_rfl
theorem excess_j3 : Tryz.prog.varsNamed 6 = Rows.progressiveExcessRow.named := by as_aux_lemma => kernel_rfl
theorem excess_joined : joinedFacts Tryz.prog 6 Tryz.f6 Rows.progressiveExcessSpec Rows.progressiveExcessRow = true := by
  unfold joinedFacts
  rw [excess_j0, excess_j1, excess_j2, excess_j3, io_enter, io_lifts, io_make]
  kernel_rfl
theorem excess_holds : Rows.ProgressiveExcessSaid :=
  OpenClaim.holds_of_wide 6 Tryz.f6 rfl rfl rfl rfl rfl rfl rfl ⟨rfl, rfl, rfl, rfl, rfl⟩ rfl rfl rfl rfl rfl (by as_aux_lemma => kernel_rfl) Tryz.func6 excess_joined
    (of_decide_eq_true (by as_aux_lemma => kernel_rfl)) (by unfold Func.isWrapper; first | (rw [if_pos (by decide +kernel)]; kernel_rfl) | (rw [if_neg (by decide +kernel)]; exact ⟨rfl, rfl⟩))
    (fun os started H enc _ => excess_lifted os started H enc)
theorem excess_card : Rows.ProgressiveExcessCardSaid :=
  Claim7.holds_tied_plain_at .later [] [.data, .data, .data, .sentinel, .sentinel] true (true, "8da3727bd41b5459b46e191c9a7204ac1b54c7258f68ddd1a33546be5efdd15c") true
    excess_holds (fun _ h => by cases h) (by as_aux_lemma => kernel_rfl) (fun _ h => by cases h) progressiveExcess_row_tie rfl ⟨rfl, rfl⟩ (by as_aux_lemma => kernel_rfl) rfl
    (fun f fn hf hfn => by
      obtain rfl : f = 6 := Option.some.inj ((show Tryz.prog.funcNamed "apograph/apographlaw21.ProgressiveExcess" = some 6 by as_aux_lemma => kernel_rfl).symm.trans hf) |>.symm
      obtain rfl : fn = Tryz.f6 := (Option.some.inj (Tryz.func6.symm.trans hfn)).symm
      exact ⟨by as_aux_lemma => kernel_rfl, fun j t ht => by
        have ht' : [23, 24, 31][j]? = some t := by rw [Tryz.params6] at ht; simpa using ht
        have hm := List.mem_of_getElem? ht'
        simp only [List.mem_cons, List.mem_nil_iff, or_false] at hm
        rcases hm with rfl | rfl | rfl <;> exact (show Tryz.prog.wantsStandIn _ = false by as_aux_lemma => kernel_rfl)⟩)
    (by as_aux_lemma => kernel_rfl)
#print axioms excess_card
end Go.Proofs.YtofikdpbagnjbaaGreatDoor
