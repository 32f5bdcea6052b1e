/- The law ProgressiveRefines holds for whatever costs, sources, columns and number of rounds: the tied card of its row. No condition beyond the row's own. -/
import Derived.Test.YtofikdpbagnjbaaGreatDoorQ4
import Derived.Test.YtofikdpbagnjbaaGreatDoorCards
import Derived.Test.YtofikdpbagnjbaaGreatDoorTie
set_option linter.unusedVariables false
set_option linter.unusedSimpArgs false
namespace Go.Proofs.YtofikdpbagnjbaaGreatDoor
open Go.RowKit Go.Shelf Go.ChangeShapes Go.WideShapes Go.Proofs
set_option maxRecDepth 100000
set_option maxHeartbeats 1000000

theorem refinesLaw_spec (c : Costs) (x : Value) (m : List (List Tok)) (y : Value) (cols : List (List Int)) (z : Int) (hz : 0 ≤ z ∧ z ≤ 255) (w : World) (hst : Std w) (hx : Rd (wr w) [x] [.s 1 (m.map toksD)]) (hy : Rd (wr w) [y] [rowsD cols]) :
    Spec Tryz.prog 8 [c.val, x, y, .int .u8 z] w (fun v R => v = .bool true ∧ R = []) := by
  obtain ⟨A, ca, l, rfl, hnb, hs, hl, -⟩ := hx.toksL
  have hcap : l.length ≤ ca := by
    obtain ⟨A', n', cap', cs', e, -, h, -⟩ := hx.src
    cases e
    exact h
  refine spec_of sg Tryz.func8 rfl rfl rfl ?_
  refine T_op (OpT.box (cs := c.cells) rfl rfl rfl rfl rfl rfl rfl (fun pc => ?_))
  by_cases hf : fineV c l = true
  · obtain ⟨hc, hgr, hbs, hck⟩ := fineV_ok hf
    obtain ⟨hgp, hn4, hq⟩ := Grp.of hst hs rfl hl hgr
    have hq' : ∀ t ∈ l, t.n ≤ 100 := fun t ht => by have := hq t ht; omega
    repeat' (first | refine d1 ?_ | refine dd ?_ | (show T _ (.ops _ (_ :: _) :: _) _ _ _; first | refine T_call rfl rfl rfl rfl rfl (fun w hw => fine21_spec c A l.length ca l w (rdSrc hs w hw) rfl hnb ⟨fun t ht => src_below (hl.src t ht) hw.below, hl.len, hl.bd⟩) ?_ | refine T_callC rfl rfl rfl rfl rfl rfl rfl (fun hg w hw => fine21_spec c A l.length ca l w (rdSrc hs w hw) rfl hnb ⟨fun t ht => src_below (hl.src t ht) hw.below, hl.len, hl.bd⟩) ?_ | refine T_call rfl rfl rfl rfl rfl (fun w hw => greatC_spec y cols w (hy.old hw)) ?_ | refine T_callC rfl rfl rfl rfl rfl rfl rfl (fun hg w hw => greatC_spec y cols w (hy.old hw)) ?_ | refine T_call rfl rfl rfl rfl rfl (fun w hw => check19_spec A l.length ca l y cols w (hgp.cls hw) (hy.old hw)) ?_ | refine T_callC rfl rfl rfl rfl rfl rfl rfl (fun hg w hw => check19_spec A l.length ca l y cols w (hgp.cls hw) (hy.old hw)) ?_) | (show T _ (.run _ _ (_ :: _) _ _ :: _) _ _ _; first | refine rc rfl rfl rfl rfl rfl rfl rfl (fun w hw => fine21_spec c A l.length ca l w (rdSrc hs w hw) rfl hnb ⟨fun t ht => src_below (hl.src t ht) hw.below, hl.len, hl.bd⟩) ?_ | refine rcG rfl rfl rfl rfl rfl rfl rfl rfl rfl (fun hg w hw => fine21_spec c A l.length ca l w (rdSrc hs w hw) rfl hnb ⟨fun t ht => src_below (hl.src t ht) hw.below, hl.len, hl.bd⟩) ?_ | refine rc rfl rfl rfl rfl rfl rfl rfl (fun w hw => greatC_spec y cols w (hy.old hw)) ?_ | refine rcG rfl rfl rfl rfl rfl rfl rfl rfl rfl (fun hg w hw => greatC_spec y cols w (hy.old hw)) ?_ | refine rc rfl rfl rfl rfl rfl rfl rfl (fun w hw => check19_spec A l.length ca l y cols w (hgp.cls hw) (hy.old hw)) ?_ | refine rcG rfl rfl rfl rfl rfl rfl rfl rfl rfl (fun hg w hw => check19_spec A l.length ca l y cols w (hgp.cls hw) (hy.old hw)) ?_) | (show ∀ _ : Nat, T _ _ _ _ _; intro _))
    refine T_if rfl (fun h => ?_) (fun h => ?_)
    · repeat' (first | refine d1 ?_ | refine dd ?_ | (show T _ (.ops _ (_ :: _) :: _) _ _ _; first | refine T_call rfl rfl rfl rfl rfl (fun w hw => awake21_spec w (hst.cls hw)) ?_ | refine T_callC rfl rfl rfl rfl rfl rfl rfl (fun hg w hw => awake21_spec w (hst.cls hw)) ?_) | (show T _ (.run _ _ (_ :: _) _ _ :: _) _ _ _; first | refine rc rfl rfl rfl rfl rfl rfl rfl (fun w hw => awake21_spec w (hst.cls hw)) ?_ | refine rcG rfl rfl rfl rfl rfl rfl rfl rfl rfl (fun hg w hw => awake21_spec w (hst.cls hw)) ?_) | (show ∀ _ : Nat, T _ _ _ _ _; intro _) | (show T _ (.code .ret :: _) _ _ _; refine T_retV [] rfl (Hle.none _) ⟨rfl, rfl⟩))
    have h2 : greatC cols = false ∧ chkC l cols = 0 := by
      rw [hf] at h
      by_cases h9 : greatC cols = true
      · rw [h9] at h; simp at h
      · simp only [Bool.not_eq_true] at h9
        rw [h9] at h
        exact ⟨h9, by simpa using h⟩
    obtain ⟨h2, h3⟩ := h2
    have hsz := (greatC_no h2).2
    have h0 : l.length ≠ 0 := fun h9 => by rw [chkC_zero h9] at h3; omega
    have hok : ColsOk (lens l) cols := Classical.byContradiction fun h9 => by rw [chkC_bad h0 h9] at h3; omega
    have hln := hl.len
    have hshort : ∀ {o : List (List Int)}, ColsOk (lens l) o → o.length ≤ 1000 := fun {o} h => by
      have h1 := h.short
      have h2 : sumL (lens l) ≤ 5 * l.length := by
        clear h h1
        have : ∀ l : List TS, (∀ t ∈ l, t.n ≤ 5) → sumL (lens l) ≤ 5 * l.length := by
          intro l
          induction l with
          | nil => intro _; exact Nat.zero_le _
          | cons t l ih =>
            intro h
            have h1 := h t (.head _)
            have h2 := ih fun x hx => h x (.tail _ hx)
            show t.n + sumL (lens l) ≤ _
            rw [List.length_cons, Nat.mul_add]
            omega
        exact this l hq
      omega
    have hal : alV l cols = 0 := by unfold alV; rw [if_neg (fun h9 => h0 h9.1), if_pos h3]
    have hus : usV c l = 0 := by unfold usV; rw [if_neg h0, hck]
    have hr : 0 ≤ z % 3 ∧ z % 3 ≤ 2 := by omega
    have e1 : refV c l cols (z % 3) = (refN c l cols (z % 3).toNat, 0) := by unfold refV; rw [if_neg (by simpa using hck), if_neg (by simpa using hal), if_neg (by omega)]
    have e2 : refV c l cols 0 = (cols, 0) := by unfold refV; rw [if_neg (by simpa using hck), if_neg (by simpa using hal), if_neg (by omega)]; rfl
    obtain ⟨hokR, hleR⟩ := refN_ok c hln hok (z % 3).toNat
    have hR := hshort hokR
    have hC := hshort hok
    have e3 : costW c l (refN c l cols (z % 3).toNat) = (totZ c l (refN c l cols (z % 3).toNat), 0) := by unfold costW; rw [if_neg (by simpa using hus), if_pos (okC_true hokR)]
    have e4 : costW c l cols = (totZ c l cols, 0) := by unfold costW; rw [if_neg (by simpa using hus), if_pos (okC_true hok)]
    repeat' (first | refine d1 ?_ | refine dd ?_ | (show T _ (.ops _ (_ :: _) :: _) _ _ _; refine T_op (OpT.call rfl rfl rfl rfl rfl (fun w hw => refine21_spec c A l.length ca l y cols (z % 3) w (hgp.cls hw) hq' hcap (hy.old hw)) ?_)) | (show ∀ _ : Nat, T _ _ _ _ _; intro _))
    rintro v R ⟨x1, -, rfl, rfl⟩
    rw [e1]
    refine T_le (H' := [dat [x1] [rowsD (refN c l cols (z % 3).toNat)], blk pc c.cells 23]) (Hle.refl _) ?_
    refine T_open fun p1 hp1 => ?_
    repeat' (first | refine d1 ?_ | refine dd ?_ | (show T _ (.ops _ (_ :: _) :: _) _ _ _; first | refine T_call rfl rfl rfl rfl rfl (fun w hw => costSum19_spec c A l.length ca l x1 (refN c l cols (z % 3).toNat) w (hgp.cls hw) (hp1.own hw) hR) ?_ | refine T_callC rfl rfl rfl rfl rfl rfl rfl (fun hg w hw => costSum19_spec c A l.length ca l x1 (refN c l cols (z % 3).toNat) w (hgp.cls hw) (hp1.own hw) hR) ?_ | refine T_call rfl rfl rfl rfl rfl (fun w hw => costSum19_spec c A l.length ca l y cols w (hgp.cls hw) (hy.old hw) hC) ?_ | refine T_callC rfl rfl rfl rfl rfl rfl rfl (fun hg w hw => costSum19_spec c A l.length ca l y cols w (hgp.cls hw) (hy.old hw) hC) ?_ | refine T_op (OpT.call rfl rfl rfl rfl rfl (fun w hw => refine21_spec c A l.length ca l y cols 0 w (hgp.cls hw) hq' hcap (hy.old hw)) ?_)) | (show T _ (.run _ _ (_ :: _) _ _ :: _) _ _ _; first | refine rc rfl rfl rfl rfl rfl rfl rfl (fun w hw => costSum19_spec c A l.length ca l x1 (refN c l cols (z % 3).toNat) w (hgp.cls hw) (hp1.own hw) hR) ?_ | refine rcG rfl rfl rfl rfl rfl rfl rfl rfl rfl (fun hg w hw => costSum19_spec c A l.length ca l x1 (refN c l cols (z % 3).toNat) w (hgp.cls hw) (hp1.own hw) hR) ?_ | refine rc rfl rfl rfl rfl rfl rfl rfl (fun w hw => costSum19_spec c A l.length ca l y cols w (hgp.cls hw) (hy.old hw) hC) ?_ | refine rcG rfl rfl rfl rfl rfl rfl rfl rfl rfl (fun hg w hw => costSum19_spec c A l.length ca l y cols w (hgp.cls hw) (hy.old hw) hC) ?_) | (show ∀ _ : Nat, T _ _ _ _ _; intro _))
    rintro v R ⟨x2, -, rfl, rfl⟩
    rw [e2]
    refine T_le (H' := [dat [x2] [rowsD cols], fz p1, blk pc c.cells 23]) (Hle.refl _) ?_
    refine T_open fun p2 hp2 => ?_
    repeat' (first | refine d1 ?_ | refine dd ?_ | (show T _ (.ops _ (_ :: _) :: _) _ _ _; first | refine T_call rfl rfl rfl rfl rfl (fun w hw => check19_spec A l.length ca l x1 (refN c l cols (z % 3).toNat) w (hgp.cls hw) (hp1.own hw)) ?_ | refine T_callC rfl rfl rfl rfl rfl rfl rfl (fun hg w hw => check19_spec A l.length ca l x1 (refN c l cols (z % 3).toNat) w (hgp.cls hw) (hp1.own hw)) ?_ | refine T_call rfl rfl rfl rfl rfl (fun w hw => sameTable_spec x2 y cols cols w (hp2.own hw) (hy.old hw)) ?_ | refine T_callC rfl rfl rfl rfl rfl rfl rfl (fun hg w hw => sameTable_spec x2 y cols cols w (hp2.own hw) (hy.old hw)) ?_ | refine T_call rfl rfl rfl rfl rfl (fun w hw => awake21_spec w (hst.cls hw)) ?_ | refine T_callC rfl rfl rfl rfl rfl rfl rfl (fun hg w hw => awake21_spec w (hst.cls hw)) ?_) | (show T _ (.run _ _ (_ :: _) _ _ :: _) _ _ _; first | refine rc rfl rfl rfl rfl rfl rfl rfl (fun w hw => check19_spec A l.length ca l x1 (refN c l cols (z % 3).toNat) w (hgp.cls hw) (hp1.own hw)) ?_ | refine rcG rfl rfl rfl rfl rfl rfl rfl rfl rfl (fun hg w hw => check19_spec A l.length ca l x1 (refN c l cols (z % 3).toNat) w (hgp.cls hw) (hp1.own hw)) ?_ | refine rc rfl rfl rfl rfl rfl rfl rfl (fun w hw => sameTable_spec x2 y cols cols w (hp2.own hw) (hy.old hw)) ?_ | refine rcG rfl rfl rfl rfl rfl rfl rfl rfl rfl (fun hg w hw => sameTable_spec x2 y cols cols w (hp2.own hw) (hy.old hw)) ?_ | refine rc rfl rfl rfl rfl rfl rfl rfl (fun w hw => awake21_spec w (hst.cls hw)) ?_ | refine rcG rfl rfl rfl rfl rfl rfl rfl rfl rfl (fun hg w hw => awake21_spec w (hst.cls hw)) ?_) | (show ∀ _ : Nat, T _ _ _ _ _; intro _) | (show T _ (.code .ret :: _) _ _ _; refine T_retV [] rfl (Hle.none _) ⟨congrArg Value.bool ?_, rfl⟩))
    rw [e3, e4, chkC_ok h0 hokR]
    simp [hleR]
  · simp only [Bool.not_eq_true] at hf
    repeat' (first | refine d1 ?_ | refine dd ?_ | (show T _ (.ops _ (_ :: _) :: _) _ _ _; first | refine T_call rfl rfl rfl rfl rfl (fun w hw => fine21_spec c A l.length ca l w (rdSrc hs w hw) rfl hnb ⟨fun t ht => src_below (hl.src t ht) hw.below, hl.len, hl.bd⟩) ?_ | refine T_callC rfl rfl rfl rfl rfl rfl rfl (fun hg w hw => fine21_spec c A l.length ca l w (rdSrc hs w hw) rfl hnb ⟨fun t ht => src_below (hl.src t ht) hw.below, hl.len, hl.bd⟩) ?_ | refine T_call rfl rfl rfl rfl rfl (fun w hw => greatC_spec y cols w (hy.old hw)) ?_ | refine T_callC rfl rfl rfl rfl rfl rfl rfl (fun hg w hw => greatC_spec y cols w (hy.old hw)) ?_ | refine T_op (OpT.never (.int .i64 0) rfl (fun hg => by (simp only [List.cons_append, List.nil_append, GP, dstL, lookE, Nat.beq, cond, List.getElem?_cons_zero, List.getElem?_cons_succ, Option.bind_some, and_true, Bool.and_eq_true, Bool.or_eq_true, Bool.and_eq_false_iff, Bool.or_eq_false_iff, Bool.not_eq_true', Bool.not_eq_false', decide_eq_true_eq, decide_eq_false_iff_not] at hg); simp [hf] at hg) rfl rfl rfl rfl rfl ?_)) | (show T _ (.run _ _ (_ :: _) _ _ :: _) _ _ _; first | refine rc rfl rfl rfl rfl rfl rfl rfl (fun w hw => fine21_spec c A l.length ca l w (rdSrc hs w hw) rfl hnb ⟨fun t ht => src_below (hl.src t ht) hw.below, hl.len, hl.bd⟩) ?_ | refine rcG rfl rfl rfl rfl rfl rfl rfl rfl rfl (fun hg w hw => fine21_spec c A l.length ca l w (rdSrc hs w hw) rfl hnb ⟨fun t ht => src_below (hl.src t ht) hw.below, hl.len, hl.bd⟩) ?_ | refine rc rfl rfl rfl rfl rfl rfl rfl (fun w hw => greatC_spec y cols w (hy.old hw)) ?_ | refine rcG rfl rfl rfl rfl rfl rfl rfl rfl rfl (fun hg w hw => greatC_spec y cols w (hy.old hw)) ?_) | (show ∀ _ : Nat, T _ _ _ _ _; intro _))
    refine T_if rfl (fun h => ?_) (fun h => by exfalso; rw [hf] at h; simp at h)
    repeat' (first | refine d1 ?_ | refine dd ?_ | (show T _ (.ops _ (_ :: _) :: _) _ _ _; first | refine T_call rfl rfl rfl rfl rfl (fun w hw => awake21_spec w (hst.cls hw)) ?_ | refine T_callC rfl rfl rfl rfl rfl rfl rfl (fun hg w hw => awake21_spec w (hst.cls hw)) ?_) | (show T _ (.run _ _ (_ :: _) _ _ :: _) _ _ _; first | refine rc rfl rfl rfl rfl rfl rfl rfl (fun w hw => awake21_spec w (hst.cls hw)) ?_ | refine rcG rfl rfl rfl rfl rfl rfl rfl rfl rfl (fun hg w hw => awake21_spec w (hst.cls hw)) ?_) | (show ∀ _ : Nat, T _ _ _ _ _; intro _) | (show T _ (.code .ret :: _) _ _ _; refine T_retV [] rfl (Hle.none _) ⟨rfl, rfl⟩))
theorem refines_met (os : Os) (args : Array Value) : laidMetH Tryz.prog Rows.progressiveRefinesRow.laid ((World.doorLaid Tryz.prog 400 os).forCall (fun _ _ => 0) ⟨#[], args, []⟩).memory :=
  io_met os args
theorem refines_lifted (os : Os) (started : os.Started) (H : Type) (enc : TypeId × Value → H) :
    ReturnsInHanded {} Tryz.checked os 8 .any (fun w args => (Rows.progressiveRefinesSpec.pre enc Tryz.prog Tryz.f8 [] false w args ∧ laidMetH Tryz.prog Rows.progressiveRefinesRow.laid w) ∧ sizedMet enc Tryz.prog Tryz.f8 (OpenSpec.ofChange Rows.progressiveRefinesSpec) false w args)
      (Rows.progressiveRefinesSpec.post enc Tryz.prog Tryz.f8 false true false false) := by
  refine returnsInHanded_of_change_and (C := Tryz.checked) (X := fun w _ => laidMetH Tryz.prog Rows.progressiveRefinesRow.laid w) (fun _ _ _ hh h => h.of_heap hh) knob started (by as_aux_lemma => kernel_rfl) Tryz.func8
    (ChangeSpec.witness_shaped (enc := enc) (C := Tryz.checked) (os := os) (X := fun w _ => laidMetH Tryz.prog Rows.progressiveRefinesRow.laid w) false (World.doorLaid Tryz.prog 400 os) #[(⟨0, 0, 0, 0⟩ : Costs).val, .slice none 0 0, .slice none 0 0, .int .u8 0] 8 rfl (World.shaped_of_RefB (by as_aux_lemma => kernel_rfl) (by as_aux_lemma => kernel_rfl)) (by as_aux_lemma => kernel_rfl) (by as_aux_lemma => kernel_rfl) (by as_aux_lemma => kernel_rfl) (refines_met os _)) ?_
  intro W base args ds gs before hval0 hW _ _ hL _
  have hval : ∀ (j : Nat) t v, Tryz.f8.params[j]? = some t → args[j]? = some v → Value.okWide Tryz.prog W .any base t v := hval0
  have hstd := std_of (show laidMetH Tryz.prog laids W from hL)
  have hW' := hW
  obtain ⟨p, q, hA0, hV, rfl, hfz, hnd⟩ := hW
  have hA : DataW.TrodAll enc Tryz.prog W 0 (fun _ => true) true Tryz.f8.params.toList args.toList ds p := hA0
  obtain ⟨v0, vs0, d0, ds0, p0, q0, e0, rfl, rfl, h0, hA⟩ := trodAll_cons hA
  obtain ⟨v1, vs1, d1, ds1, p1, q1, rfl, rfl, rfl, h1, hA⟩ := trodAll_cons hA
  obtain ⟨v2, vs2, d2, ds2, p2, q2, rfl, rfl, rfl, h2, hA⟩ := trodAll_cons hA
  obtain ⟨v3, vs3, d3, ds3, p3, q3, rfl, rfl, rfl, h3, hA⟩ := trodAll_cons hA
  obtain ⟨rfl, rfl, rfl⟩ := trodAll_nil hA
  have ea : args = #[v0, v1, v2, v3] := Array.ext' e0
  subst ea
  obtain ⟨c, rfl⟩ := arg_costs (hval 0 _ v0 rfl rfl) h0
  obtain ⟨l, hr_l⟩ := arg_toksL (hval 1 _ v1 rfl rfl) h1
  obtain ⟨cols, hr_cols⟩ := arg_rows (hval 2 _ v2 rfl rfl) h2
  obtain ⟨z, rfl, hb_z⟩ := arg_u8 (hval 3 _ v3 rfl rfl) h3
  refine (refinesLaw_spec c v1 l v2 cols z hb_z W hstd hr_l hr_cols).calls.mono ?_
  rintro e W' ⟨v, A, rfl, ⟨rfl, _⟩, hb, _⟩
  exact ⟨_, rfl, law_post hW' rfl rfl laidOk (by intro t ht; simp only [show Tryz.f8.params.toList = [23, 24, 31, 5] from rfl, List.mem_cons, List.mem_nil_iff, or_false] at ht; rcases ht with rfl | rfl | rfl | rfl <;> exact ⟨by as_aux_lemma => kernel_rfl, of_decide_eq_true (by as_aux_lemma => kernel_rfl)⟩) rfl Tryz.underlying4 hb⟩
theorem refines_j0 : Tryz.prog.inPlace 8 = Rows.progressiveRefinesRow.inPlace := by as_aux_lemma => kernel_rfl
theorem refines_j1 : Tryz.prog.unfollowed 8 = Rows.progressiveRefinesRow.unfollowed := by as_aux_lemma => kernel_rfl
theorem refines_j2 : Tryz.prog.recurses 8 = Rows.progressiveRefinesRow.recurses := by as_aux_lemma => kernel_rfl
theorem refines_j3 : Tryz.prog.varsNamed 8 = Rows.progressiveRefinesRow.named := by as_aux_lemma => kernel_rfl
theorem refines_joined : joinedFacts Tryz.prog 8 Tryz.f8 Rows.progressiveRefinesSpec Rows.progressiveRefinesRow = true := by
  unfold joinedFacts
  rw [refines_j0, refines_j1, refines_j2, refines_j3, io_enter, io_lifts, io_make]
  kernel_rfl
theorem refines_holds : Rows.ProgressiveRefinesSaid :=
  OpenClaim.holds_of_wide 8 Tryz.f8 rfl rfl rfl rfl rfl rfl rfl ⟨rfl, rfl, rfl, rfl, rfl⟩ rfl rfl rfl rfl rfl (by as_aux_lemma => kernel_rfl) Tryz.func8 refines_joined
    (of_decide_eq_true (by as_aux_lemma => kernel_rfl)) (by unfold Func.isWrapper; first | (rw [if_pos (by decide +kernel)]; kernel_rfl) | (rw [if_neg (by decide +kernel)]; exact ⟨rfl, rfl⟩))
    (fun os started H enc _ => refines_lifted os started H enc)
theorem refines_card : Rows.ProgressiveRefinesCardSaid :=
  Claim7.holds_tied_plain_at .later [] [.data, .data, .data, .sentinel, .sentinel] true (true, "8da3727bd41b5459b46e191c9a7204ac1b54c7258f68ddd1a33546be5efdd15c") true
    refines_holds (fun _ h => by cases h) (by as_aux_lemma => kernel_rfl) (fun _ h => by cases h) progressiveRefines_row_tie rfl ⟨rfl, rfl⟩ io_main rfl
    (fun f fn hf hfn => by
      obtain rfl : f = 8 := Option.some.inj ((show Tryz.prog.funcNamed "apograph/apographlaw21.ProgressiveRefines" = some 8 by as_aux_lemma => kernel_rfl).symm.trans hf) |>.symm
      obtain rfl : fn = Tryz.f8 := (Option.some.inj (Tryz.func8.symm.trans hfn)).symm
      exact ⟨by as_aux_lemma => kernel_rfl, fun j t ht => by
        have ht' : [23, 24, 31, 5][j]? = some t := by rw [Tryz.params8] at ht; simpa using ht
        have hm := List.mem_of_getElem? ht'
        simp only [List.mem_cons, List.mem_nil_iff, or_false] at hm
        rcases hm with rfl | rfl | rfl | rfl <;> exact (show Tryz.prog.wantsStandIn _ = false by as_aux_lemma => kernel_rfl)⟩)
    (by as_aux_lemma => kernel_rfl)
#print axioms refines_card
end Go.Proofs.YtofikdpbagnjbaaGreatDoor
