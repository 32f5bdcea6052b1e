/- The law MultiwayValid holds for whatever costs and sources: the tied card of its row. No condition beyond the row's own. -/
import Derived.Test.YtofikdpbagnjbaaGreatDoorJ4
import Derived.Test.YtofikdpbagnjbaaGreatDoorCards
import Derived.Test.YtofikdpbagnjbaaGreatDoorTie
set_option linter.unusedVariables false
set_option linter.unusedSimpArgs false
namespace Go.Proofs.YtofikdpbagnjbaaGreatDoor
open Go.RowKit Go.Shelf Go.ChangeShapes Go.WideShapes Go.Proofs
set_option maxRecDepth 100000
set_option maxHeartbeats 1000000

theorem validM_spec (c : Costs) (x : Value) (m : List (List Tok)) (w : World) (hst : Std w) (hx : Rd (wr w) [x] [.s 1 (m.map toksD)]) :
    Spec Tryz.prog 14 [c.val, x] w (fun v R => v = .bool true ∧ R = []) := by
  obtain ⟨A, ca, l, rfl, hnb, hs, hl, -⟩ := hx.toksL
  refine spec_of sg Tryz.func14 rfl rfl rfl ?_
  refine T_op (OpT.box (cs := c.cells) rfl rfl rfl rfl rfl rfl rfl (fun pc => ?_))
  repeat' (first | refine d1 ?_ | refine dd ?_ | (show T _ (.ops _ (_ :: _) :: _) _ _ _; refine T_op (OpT.call rfl rfl rfl rfl rfl (fun w hw => alignL_spec c A l.length ca l w (hst.cls hw) (rdSrc hs w hw) rfl hnb ⟨fun t ht => src_below (hl.src t ht) hw.below, hl.len, hl.bd⟩) ?_)) | (show ∀ _ : Nat, T _ _ _ _ _; intro _))
  rintro v R ⟨y, cols, z, hz, rfl, rfl⟩
  cases hB : alnB c l with
  | false =>
    repeat' (first | refine d1 ?_ | refine dd ?_ | (show ∀ _ : Nat, T _ _ _ _ _; intro _))
    refine T_if rfl (fun _ => ?_) (fun h => by exfalso; simp at h)
    repeat' (first | refine d1 ?_ | refine dd ?_ | (show T _ (.ops _ (_ :: _) :: _) _ _ _; first | refine T_call rfl rfl rfl rfl rfl (fun w hw => awake19_spec w (hst.cls hw)) ?_ | refine T_callC rfl rfl rfl rfl rfl rfl rfl (fun hg w hw => awake19_spec w (hst.cls hw)) ?_) | (show T _ (.run _ _ (_ :: _) _ _ :: _) _ _ _; first | refine rc rfl rfl rfl rfl rfl rfl rfl (fun w hw => awake19_spec w (hst.cls hw)) ?_ | refine rcG rfl rfl rfl rfl rfl rfl rfl rfl rfl (fun hg w hw => awake19_spec w (hst.cls hw)) ?_) | (show ∀ _ : Nat, T _ _ _ _ _; intro _) | (show T _ (.code .ret :: _) _ _ _; refine T_retV [] rfl (Hle.none _) ⟨rfl, rfl⟩))
  | true =>
    obtain ⟨rfl, rfl⟩ := hz hB
    obtain ⟨hu, h1, h4, hq, -, -, -⟩ := alnB_pure hB
    have hgp := alnB_grp hst hs rfl hl hB
    obtain ⟨-, hc, -⟩ := usV_ok hu
    obtain ⟨hok, htot⟩ := alnW_ok hc h1 h4
    have hsh := hok.short
    have hsq := sumL_lensQ hq
    have hnn : 0 ≤ lstV c l := rsV_nn _ _ _ _
    have e : costW c l (alnW c l) = (lstV c l, 0) := by unfold costW; rw [if_neg (by simpa using hu), if_pos (okC_true hok), htot]
    repeat' (first | refine d1 ?_ | refine dd ?_ | (show ∀ _ : Nat, T _ _ _ _ _; intro _))
    refine T_if rfl (fun h => by exfalso; simp at h) (fun _ => ?_)
    refine T_le (H' := [dat [y] [rowsD (alnW c l)], blk pc c.cells 23]) (Hle.refl _) ?_
    refine T_open fun p hp => ?_
    repeat' (first | refine d1 ?_ | refine dd ?_ | (show T _ (.ops _ (_ :: _) :: _) _ _ _; first | refine T_call rfl rfl rfl rfl rfl (fun w hw => costSum19_spec c A l.length ca l y (alnW c l) w (hgp.cls hw) (hp.own hw) (by omega)) ?_ | refine T_callC rfl rfl rfl rfl rfl rfl rfl (fun hg w hw => costSum19_spec c A l.length ca l y (alnW c l) w (hgp.cls hw) (hp.own hw) (by omega)) ?_ | refine T_call rfl rfl rfl rfl rfl (fun w hw => check19_spec A l.length ca l y (alnW c l) w (hgp.cls hw) (hp.own hw)) ?_ | refine T_callC rfl rfl rfl rfl rfl rfl rfl (fun hg w hw => check19_spec A l.length ca l y (alnW c l) w (hgp.cls hw) (hp.own hw)) ?_ | refine T_call rfl rfl rfl rfl rfl (fun w hw => awake19_spec w (hst.cls hw)) ?_ | refine T_callC rfl rfl rfl rfl rfl rfl rfl (fun hg w hw => awake19_spec w (hst.cls hw)) ?_) | (show T _ (.run _ _ (_ :: _) _ _ :: _) _ _ _; first | refine rc rfl rfl rfl rfl rfl rfl rfl (fun w hw => costSum19_spec c A l.length ca l y (alnW c l) w (hgp.cls hw) (hp.own hw) (by omega)) ?_ | refine rcG rfl rfl rfl rfl rfl rfl rfl rfl rfl (fun hg w hw => costSum19_spec c A l.length ca l y (alnW c l) w (hgp.cls hw) (hp.own hw) (by omega)) ?_ | refine rc rfl rfl rfl rfl rfl rfl rfl (fun w hw => check19_spec A l.length ca l y (alnW c l) w (hgp.cls hw) (hp.own hw)) ?_ | refine rcG rfl rfl rfl rfl rfl rfl rfl rfl rfl (fun hg w hw => check19_spec A l.length ca l y (alnW c l) w (hgp.cls hw) (hp.own hw)) ?_ | refine rc rfl rfl rfl rfl rfl rfl rfl (fun w hw => awake19_spec w (hst.cls hw)) ?_ | refine rcG rfl rfl rfl rfl rfl rfl rfl rfl rfl (fun hg w hw => awake19_spec w (hst.cls hw)) ?_) | (show ∀ _ : Nat, T _ _ _ _ _; intro _) | (show T _ (.code .ret :: _) _ _ _; refine T_retV [] rfl (Hle.none _) ⟨congrArg Value.bool ?_, rfl⟩))
    rw [e, chkC_ok (by omega) hok]
    simp [hnn]
theorem valid_met (os : Os) (args : Array Value) : laidMetH Tryz.prog Rows.multiwayValidRow.laid ((World.doorLaid Tryz.prog 400 os).forCall (fun _ _ => 0) ⟨#[], args, []⟩).memory :=
  laidMetH_of_parts3 (fuel := 8) (laidMet_of_run' 8 (by as_aux_lemma => kernel_rfl) (by as_aux_lemma => kernel_rfl)) (by as_aux_lemma => kernel_rfl) (by as_aux_lemma => kernel_rfl)
theorem valid_lifted (os : Os) (started : os.Started) (H : Type) (enc : TypeId × Value → H) :
    ReturnsInHanded {} Tryz.checked os 14 .any (fun w args => (Rows.multiwayValidSpec.pre enc Tryz.prog Tryz.f14 [] false w args ∧ laidMetH Tryz.prog Rows.multiwayValidRow.laid w) ∧ sizedMet enc Tryz.prog Tryz.f14 (OpenSpec.ofChange Rows.multiwayValidSpec) false w args)
      (Rows.multiwayValidSpec.post enc Tryz.prog Tryz.f14 false true false false) := by
  refine returnsInHanded_of_change_and (C := Tryz.checked) (X := fun w _ => laidMetH Tryz.prog Rows.multiwayValidRow.laid w) (fun _ _ _ hh h => h.of_heap hh) knob started (by as_aux_lemma => kernel_rfl) Tryz.func14
    (ChangeSpec.witness_shaped (enc := enc) (C := Tryz.checked) (os := os) (X := fun w _ => laidMetH Tryz.prog Rows.multiwayValidRow.laid w) false (World.doorLaid Tryz.prog 400 os) #[(⟨0, 0, 0, 0⟩ : Costs).val, .slice none 0 0] 8 rfl (World.shaped_of_RefB (by as_aux_lemma => kernel_rfl) (by as_aux_lemma => kernel_rfl)) (by as_aux_lemma => kernel_rfl) (by as_aux_lemma => kernel_rfl) (by as_aux_lemma => kernel_rfl) (valid_met os _)) ?_
  intro W base args ds gs before hval0 hW _ _ hL _
  have hval : ∀ (j : Nat) t v, Tryz.f14.params[j]? = some t → args[j]? = some v → Value.okWide Tryz.prog W .any base t v := hval0
  have hstd := std_of (show laidMetH Tryz.prog laids W from hL)
  have hW' := hW
  obtain ⟨p, q, hA0, hV, rfl, hfz, hnd⟩ := hW
  have hA : DataW.TrodAll enc Tryz.prog W 0 (fun _ => true) true Tryz.f14.params.toList args.toList ds p := hA0
  obtain ⟨v0, vs0, d0, ds0, p0, q0, e0, rfl, rfl, h0, hA⟩ := trodAll_cons hA
  obtain ⟨v1, vs1, d1, ds1, p1, q1, rfl, rfl, rfl, h1, hA⟩ := trodAll_cons hA
  obtain ⟨rfl, rfl, rfl⟩ := trodAll_nil hA
  have ea : args = #[v0, v1] := Array.ext' e0
  subst ea
  obtain ⟨c, rfl⟩ := arg_costs (hval 0 _ v0 rfl rfl) h0
  obtain ⟨l, hr_l⟩ := arg_toksL (hval 1 _ v1 rfl rfl) h1
  refine (validM_spec c v1 l W hstd hr_l).calls.mono ?_
  rintro e W' ⟨v, A, rfl, ⟨rfl, _⟩, hb, _⟩
  exact ⟨_, rfl, law_post hW' rfl rfl laidOk (by intro t ht; simp only [show Tryz.f14.params.toList = [23, 24] from rfl, List.mem_cons, List.mem_nil_iff, or_false] at ht; rcases ht with rfl | rfl <;> exact ⟨by as_aux_lemma => kernel_rfl, of_decide_eq_true (by as_aux_lemma => kernel_rfl)⟩) rfl Tryz.underlying4 hb⟩
theorem valid_j0 : Tryz.prog.inPlace 14 = Rows.multiwayValidRow.inPlace := by as_aux_lemma => kernel_rfl
theorem valid_j1 : Tryz.prog.unfollowed 14 = Rows.multiwayValidRow.unfollowed := by as_aux_lemma => kernel_rfl
theorem valid_j2 : Tryz.prog.recurses 14 = Rows.multiwayValidRow.recurses := by as_aux_lemma => kernel_rfl
theorem valid_j3 : Tryz.prog.varsNamed 14 = Rows.multiwayValidRow.named := by as_aux_lemma => kernel_rfl
theorem valid_joined : joinedFacts Tryz.prog 14 Tryz.f14 Rows.multiwayValidSpec Rows.multiwayValidRow = true := by
  unfold joinedFacts
  rw [valid_j0, valid_j1, valid_j2, valid_j3, io_enter, io_lifts, io_make]
  kernel_rfl
theorem valid_holds : Rows.MultiwayValidSaid :=
  OpenClaim.holds_of_wide 14 Tryz.f14 rfl rfl rfl rfl rfl rfl rfl ⟨rfl, rfl, rfl, rfl, rfl⟩ rfl rfl rfl rfl rfl (by as_aux_lemma => kernel_rfl) Tryz.func14 valid_joined
    (of_decide_eq_true (by as_aux_lemma => kernel_rfl)) (by unfold Func.isWrapper; first | (rw [if_pos (by decide +kernel)]; kernel_rfl) | (rw [if_neg (by decide +kernel)]; exact ⟨rfl, rfl⟩))
    (fun os started H enc _ => valid_lifted os started H enc)
theorem valid_card : Rows.MultiwayValidCardSaid :=
  Claim7.holds_tied_plain_at .later [] [.data, .data, .data, .sentinel, .sentinel] true (true, "8da3727bd41b5459b46e191c9a7204ac1b54c7258f68ddd1a33546be5efdd15c") true
    valid_holds (fun _ h => by cases h) (by as_aux_lemma => kernel_rfl) (fun _ h => by cases h) multiwayValid_row_tie rfl ⟨rfl, rfl⟩ io_main rfl
    (fun f fn hf hfn => by
      obtain rfl : f = 14 := Option.some.inj ((show Tryz.prog.funcNamed "apograph/apographlaw19.MultiwayValid" = some 14 by as_aux_lemma => kernel_rfl).symm.trans hf) |>.symm
      obtain rfl : fn = Tryz.f14 := (Option.some.inj (Tryz.func14.symm.trans hfn)).symm
      exact ⟨by as_aux_lemma => kernel_rfl, fun j t ht => by
        have ht' : [23, 24][j]? = some t := by rw [Tryz.params14] at ht; simpa using ht
        have hm := List.mem_of_getElem? ht'
        simp only [List.mem_cons, List.mem_nil_iff, or_false] at hm
        rcases hm with rfl | rfl <;> exact (show Tryz.prog.wantsStandIn _ = false by as_aux_lemma => kernel_rfl)⟩)
    (by as_aux_lemma => kernel_rfl)
#print axioms valid_card
end Go.Proofs.YtofikdpbagnjbaaGreatDoor
