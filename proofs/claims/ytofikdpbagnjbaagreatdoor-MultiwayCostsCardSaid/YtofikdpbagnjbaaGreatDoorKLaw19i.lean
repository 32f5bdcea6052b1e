/- The law MultiwayCosts holds for whatever costs, sources and columns: the tied card of its row. No condition beyond the row's own. -/
import Derived.Test.YtofikdpbagnjbaaGreatDoorJ4
import Derived.Test.YtofikdpbagnjbaaGreatDoorCards
import Derived.Test.YtofikdpbagnjbaaGreatDoorTie
set_option linter.unusedVariables false
set_option linter.unusedSimpArgs false
namespace Go.Proofs.YtofikdpbagnjbaaGreatDoor
open Go.RowKit Go.Shelf Go.ChangeShapes Go.WideShapes Go.Proofs
set_option maxRecDepth 100000
set_option maxHeartbeats 1000000

theorem costsM_spec (c : Costs) (x : Value) (m : List (List Tok)) (y : Value) (o : List (List Int)) (w : World) (hst : Std w) (hx : Rd (wr w) [x] [.s 1 (m.map toksD)]) (hy : Rd (wr w) [y] [rowsD o]) :
    Spec Tryz.prog 19 [c.val, x, y] w (fun v R => v = .bool true ∧ R = []) := by
  obtain ⟨A, ca, l, rfl, hnb, hs, hl, -⟩ := hx.toksL
  have hy0 := hy
  obtain ⟨Ao, co, cso, rfl, ho1, ho2, hos, horows⟩ := hy.tabS
  refine spec_of sg Tryz.func19 rfl rfl rfl ?_
  refine T_op (OpT.box (cs := c.cells) rfl rfl rfl rfl rfl rfl rfl (fun pc => ?_))
  repeat' (first | refine d1 ?_ | refine dd ?_ | (show T _ (.ops _ (_ :: _) :: _) _ _ _; first | refine T_call rfl rfl rfl rfl rfl (fun w hw => great19_spec A l.length ca l 5 6 w (rdSrc hs w hw) rfl hnb ⟨fun t ht => src_below (hl.src t ht) hw.below, hl.len, hl.bd⟩ (by omega) (by omega)) ?_ | refine T_callC rfl rfl rfl rfl rfl rfl rfl (fun hg w hw => great19_spec A l.length ca l 5 6 w (rdSrc hs w hw) rfl hnb ⟨fun t ht => src_below (hl.src t ht) hw.below, hl.len, hl.bd⟩ (by omega) (by omega)) ?_ | refine T_call rfl rfl rfl rfl rfl (fun w hw => greatC19_spec _ o 16 w (hy0.old hw)) ?_ | refine T_callC rfl rfl rfl rfl rfl rfl rfl (fun hg w hw => greatC19_spec _ o 16 w (hy0.old hw)) ?_) | (show T _ (.run _ _ (_ :: _) _ _ :: _) _ _ _; first | refine rc rfl rfl rfl rfl rfl rfl rfl (fun w hw => great19_spec A l.length ca l 5 6 w (rdSrc hs w hw) rfl hnb ⟨fun t ht => src_below (hl.src t ht) hw.below, hl.len, hl.bd⟩ (by omega) (by omega)) ?_ | refine rcG rfl rfl rfl rfl rfl rfl rfl rfl rfl (fun hg w hw => great19_spec A l.length ca l 5 6 w (rdSrc hs w hw) rfl hnb ⟨fun t ht => src_below (hl.src t ht) hw.below, hl.len, hl.bd⟩ (by omega) (by omega)) ?_ | refine rc rfl rfl rfl rfl rfl rfl rfl (fun w hw => greatC19_spec _ o 16 w (hy0.old hw)) ?_ | refine rcG rfl rfl rfl rfl rfl rfl rfl rfl rfl (fun hg w hw => greatC19_spec _ o 16 w (hy0.old hw)) ?_) | (show ∀ _ : Nat, T _ _ _ _ _; intro _))
  refine T_if rfl (fun _ => ?_) (fun h => ?_)
  · repeat' (first | refine d1 ?_ | refine dd ?_ | (show T _ (.ops _ (_ :: _) :: _) _ _ _; first | refine T_call rfl rfl rfl rfl rfl (fun w hw => awake19_spec w (hst.cls hw)) ?_ | refine T_callC rfl rfl rfl rfl rfl rfl rfl (fun hg w hw => awake19_spec w (hst.cls hw)) ?_) | (show T _ (.run _ _ (_ :: _) _ _ :: _) _ _ _; first | refine rc rfl rfl rfl rfl rfl rfl rfl (fun w hw => awake19_spec w (hst.cls hw)) ?_ | refine rcG rfl rfl rfl rfl rfl rfl rfl rfl rfl (fun hg w hw => awake19_spec w (hst.cls hw)) ?_) | (show ∀ _ : Nat, T _ _ _ _ _; intro _) | (show T _ (.code .ret :: _) _ _ _; refine T_retV [] rfl (Hle.none _) ⟨rfl, rfl⟩))
  have hh : great19B l 5 6 = false ∧ greatC19 o 16 = false := by
    simp only [Bool.or_eq_false_iff] at h
    exact ⟨h.1, h.2⟩
  clear h
  obtain ⟨hgr, hgo⟩ := hh
  obtain ⟨-, ho16⟩ := greatC19_no hgo
  obtain ⟨g1, g2, g3⟩ := great19_no hl hgr
  by_cases hbig : l.length ≠ 0 ∧ (32 < l.length ∨ ∃ t ∈ l, 1024 < t.n)
  · repeat' (first | refine d1 ?_ | refine dd ?_ | (show T _ (.ops _ (_ :: _) :: _) _ _ _; first | refine T_call rfl rfl rfl rfl rfl (fun w hw => costBig_spec c A l.length ca l _ w (rdSrc hs w hw) rfl (by omega) hbig.1 hbig.2) ?_ | refine T_callC rfl rfl rfl rfl rfl rfl rfl (fun hg w hw => costBig_spec c A l.length ca l _ w (rdSrc hs w hw) rfl (by omega) hbig.1 hbig.2) ?_ | refine T_call rfl rfl rfl rfl rfl (fun w hw => costRBig_spec c A l.length ca l _ w (rdSrc hs w hw) rfl (by omega) hbig.1 hbig.2) ?_ | refine T_callC rfl rfl rfl rfl rfl rfl rfl (fun hg w hw => costRBig_spec c A l.length ca l _ w (rdSrc hs w hw) rfl (by omega) hbig.1 hbig.2) ?_ | refine T_call rfl rfl rfl rfl rfl (fun w hw => boundBig_spec c A l.length ca l w (rdSrc hs w hw) rfl (by omega) hbig.1 hbig.2) ?_ | refine T_callC rfl rfl rfl rfl rfl rfl rfl (fun hg w hw => boundBig_spec c A l.length ca l w (rdSrc hs w hw) rfl (by omega) hbig.1 hbig.2) ?_ | refine T_call rfl rfl rfl rfl rfl (fun w hw => boundRBig_spec c A l.length ca l w (rdSrc hs w hw) rfl (by omega) hbig.1 hbig.2) ?_ | refine T_callC rfl rfl rfl rfl rfl rfl rfl (fun hg w hw => boundRBig_spec c A l.length ca l w (rdSrc hs w hw) rfl (by omega) hbig.1 hbig.2) ?_ | refine T_call rfl rfl rfl rfl rfl (fun w hw => awake19_spec w (hst.cls hw)) ?_ | refine T_callC rfl rfl rfl rfl rfl rfl rfl (fun hg w hw => awake19_spec w (hst.cls hw)) ?_) | (show T _ (.run _ _ (_ :: _) _ _ :: _) _ _ _; first | refine rc rfl rfl rfl rfl rfl rfl rfl (fun w hw => costBig_spec c A l.length ca l _ w (rdSrc hs w hw) rfl (by omega) hbig.1 hbig.2) ?_ | refine rcG rfl rfl rfl rfl rfl rfl rfl rfl rfl (fun hg w hw => costBig_spec c A l.length ca l _ w (rdSrc hs w hw) rfl (by omega) hbig.1 hbig.2) ?_ | refine rc rfl rfl rfl rfl rfl rfl rfl (fun w hw => costRBig_spec c A l.length ca l _ w (rdSrc hs w hw) rfl (by omega) hbig.1 hbig.2) ?_ | refine rcG rfl rfl rfl rfl rfl rfl rfl rfl rfl (fun hg w hw => costRBig_spec c A l.length ca l _ w (rdSrc hs w hw) rfl (by omega) hbig.1 hbig.2) ?_ | refine rc rfl rfl rfl rfl rfl rfl rfl (fun w hw => boundBig_spec c A l.length ca l w (rdSrc hs w hw) rfl (by omega) hbig.1 hbig.2) ?_ | refine rcG rfl rfl rfl rfl rfl rfl rfl rfl rfl (fun hg w hw => boundBig_spec c A l.length ca l w (rdSrc hs w hw) rfl (by omega) hbig.1 hbig.2) ?_ | refine rc rfl rfl rfl rfl rfl rfl rfl (fun w hw => boundRBig_spec c A l.length ca l w (rdSrc hs w hw) rfl (by omega) hbig.1 hbig.2) ?_ | refine rcG rfl rfl rfl rfl rfl rfl rfl rfl rfl (fun hg w hw => boundRBig_spec c A l.length ca l w (rdSrc hs w hw) rfl (by omega) hbig.1 hbig.2) ?_ | refine rc rfl rfl rfl rfl rfl rfl rfl (fun w hw => awake19_spec w (hst.cls hw)) ?_ | refine rcG rfl rfl rfl rfl rfl rfl rfl rfl rfl (fun hg w hw => awake19_spec w (hst.cls hw)) ?_) | (show ∀ _ : Nat, T _ _ _ _ _; intro _) | (show T _ (.code .ret :: _) _ _ _; refine T_retV [] rfl (Hle.none _) ⟨rfl, rfl⟩))
  have hgp : Grp w A l.length l := by
    refine ⟨hst, hs, rfl, ?_, hl, fun t ht => ?_, g3⟩
    · refine Classical.byContradiction fun h9 => hbig ⟨by omega, .inl (by omega)⟩
    · rcases g2 t ht with h9 | h9
      · omega
      · exact absurd ⟨by have := List.length_pos_of_mem ht; omega, .inr ⟨t, ht, h9.1⟩⟩ hbig
  have hq' : ∀ t ∈ l, t.n ≤ 100 := fun t ht => by
    rcases g2 t ht with h9 | h9
    · omega
    · exact absurd ⟨by have := List.length_pos_of_mem ht; omega, .inr ⟨t, ht, h9.1⟩⟩ hbig
  repeat' (first | refine d1 ?_ | refine dd ?_ | (show T _ (.ops _ (_ :: _) :: _) _ _ _; first | refine T_call rfl rfl rfl rfl rfl (fun w hw => costSum19_spec c A l.length ca l _ o w (hgp.cls hw) (hy0.old hw) (by omega)) ?_ | refine T_callC rfl rfl rfl rfl rfl rfl rfl (fun hg w hw => costSum19_spec c A l.length ca l _ o w (hgp.cls hw) (hy0.old hw) (by omega)) ?_ | refine T_call rfl rfl rfl rfl rfl (fun w hw => costSumR_spec c A l.length ca l _ o w (hgp.cls hw) (hy0.old hw) (by omega)) ?_ | refine T_callC rfl rfl rfl rfl rfl rfl rfl (fun hg w hw => costSumR_spec c A l.length ca l _ o w (hgp.cls hw) (hy0.old hw) (by omega)) ?_ | refine T_call rfl rfl rfl rfl rfl (fun w hw => bound19_spec c A l.length ca l w (hgp.cls hw) hq') ?_ | refine T_callC rfl rfl rfl rfl rfl rfl rfl (fun hg w hw => bound19_spec c A l.length ca l w (hgp.cls hw) hq') ?_ | refine T_call rfl rfl rfl rfl rfl (fun w hw => boundR_spec c A l.length ca l w (hgp.cls hw) hq') ?_ | refine T_callC rfl rfl rfl rfl rfl rfl rfl (fun hg w hw => boundR_spec c A l.length ca l w (hgp.cls hw) hq') ?_ | refine T_call rfl rfl rfl rfl rfl (fun w hw => awake19_spec w (hst.cls hw)) ?_ | refine T_callC rfl rfl rfl rfl rfl rfl rfl (fun hg w hw => awake19_spec w (hst.cls hw)) ?_) | (show T _ (.run _ _ (_ :: _) _ _ :: _) _ _ _; first | refine rc rfl rfl rfl rfl rfl rfl rfl (fun w hw => costSum19_spec c A l.length ca l _ o w (hgp.cls hw) (hy0.old hw) (by omega)) ?_ | refine rcG rfl rfl rfl rfl rfl rfl rfl rfl rfl (fun hg w hw => costSum19_spec c A l.length ca l _ o w (hgp.cls hw) (hy0.old hw) (by omega)) ?_ | refine rc rfl rfl rfl rfl rfl rfl rfl (fun w hw => costSumR_spec c A l.length ca l _ o w (hgp.cls hw) (hy0.old hw) (by omega)) ?_ | refine rcG rfl rfl rfl rfl rfl rfl rfl rfl rfl (fun hg w hw => costSumR_spec c A l.length ca l _ o w (hgp.cls hw) (hy0.old hw) (by omega)) ?_ | refine rc rfl rfl rfl rfl rfl rfl rfl (fun w hw => bound19_spec c A l.length ca l w (hgp.cls hw) hq') ?_ | refine rcG rfl rfl rfl rfl rfl rfl rfl rfl rfl (fun hg w hw => bound19_spec c A l.length ca l w (hgp.cls hw) hq') ?_ | refine rc rfl rfl rfl rfl rfl rfl rfl (fun w hw => boundR_spec c A l.length ca l w (hgp.cls hw) hq') ?_ | refine rcG rfl rfl rfl rfl rfl rfl rfl rfl rfl (fun hg w hw => boundR_spec c A l.length ca l w (hgp.cls hw) hq') ?_ | refine rc rfl rfl rfl rfl rfl rfl rfl (fun w hw => awake19_spec w (hst.cls hw)) ?_ | refine rcG rfl rfl rfl rfl rfl rfl rfl rfl rfl (fun hg w hw => awake19_spec w (hst.cls hw)) ?_) | (show ∀ _ : Nat, T _ _ _ _ _; intro _) | (show T _ (.code .ret :: _) _ _ _; refine T_retV [] rfl (Hle.none _) ⟨congrArg Value.bool ?_, rfl⟩))
  simp
theorem costs_met (os : Os) (args : Array Value) : laidMetH Tryz.prog Rows.multiwayCostsRow.laid ((World.doorLaid Tryz.prog 400 os).forCall (fun _ _ => 0) ⟨#[], args, []⟩).memory :=
  io_met os args
theorem costs_lifted (os : Os) (started : os.Started) (H : Type) (enc : TypeId × Value → H) :
    ReturnsInHanded {} Tryz.checked os 19 .any (fun w args => (Rows.multiwayCostsSpec.pre enc Tryz.prog Tryz.f19 [] false w args ∧ laidMetH Tryz.prog Rows.multiwayCostsRow.laid w) ∧ sizedMet enc Tryz.prog Tryz.f19 (OpenSpec.ofChange Rows.multiwayCostsSpec) false w args)
      (Rows.multiwayCostsSpec.post enc Tryz.prog Tryz.f19 false true false false) := by
  refine returnsInHanded_of_change_and (C := Tryz.checked) (X := fun w _ => laidMetH Tryz.prog Rows.multiwayCostsRow.laid w) (fun _ _ _ hh h => h.of_heap hh) knob started (by as_aux_lemma => kernel_rfl) Tryz.func19
    (ChangeSpec.witness_shaped (enc := enc) (C := Tryz.checked) (os := os) (X := fun w _ => laidMetH Tryz.prog Rows.multiwayCostsRow.laid w) false (World.doorLaid Tryz.prog 400 os) #[(⟨0, 0, 0, 0⟩ : Costs).val, .slice none 0 0, .slice none 0 0] 8 rfl (World.shaped_of_RefB (by as_aux_lemma => kernel_rfl) (by as_aux_lemma => kernel_rfl)) (by as_aux_lemma => kernel_rfl) (by as_aux_lemma => kernel_rfl) (by as_aux_lemma => kernel_rfl) (costs_met os _)) ?_
  intro W base args ds gs before hval0 hW _ _ hL _
  have hval : ∀ (j : Nat) t v, Tryz.f19.params[j]? = some t → args[j]? = some v → Value.okWide Tryz.prog W .any base t v := hval0
  have hstd := std_of (show laidMetH Tryz.prog laids W from hL)
  have hW' := hW
  obtain ⟨p, q, hA0, hV, rfl, hfz, hnd⟩ := hW
  have hA : DataW.TrodAll enc Tryz.prog W 0 (fun _ => true) true Tryz.f19.params.toList args.toList ds p := hA0
  obtain ⟨v0, vs0, d0, ds0, p0, q0, e0, rfl, rfl, h0, hA⟩ := trodAll_cons hA
  obtain ⟨v1, vs1, d1, ds1, p1, q1, rfl, rfl, rfl, h1, hA⟩ := trodAll_cons hA
  obtain ⟨v2, vs2, d2, ds2, p2, q2, rfl, rfl, rfl, h2, hA⟩ := trodAll_cons hA
  obtain ⟨rfl, rfl, rfl⟩ := trodAll_nil hA
  have ea : args = #[v0, v1, v2] := Array.ext' e0
  subst ea
  obtain ⟨c, rfl⟩ := arg_costs (hval 0 _ v0 rfl rfl) h0
  obtain ⟨l, hr_l⟩ := arg_toksL (hval 1 _ v1 rfl rfl) h1
  obtain ⟨cols, hr_cols⟩ := arg_rows (hval 2 _ v2 rfl rfl) h2
  refine (costsM_spec c v1 l v2 cols W hstd hr_l hr_cols).calls.mono ?_
  rintro e W' ⟨v, A, rfl, ⟨rfl, _⟩, hb, _⟩
  exact ⟨_, rfl, law_post hW' rfl rfl laidOk (by intro t ht; simp only [show Tryz.f19.params.toList = [23, 24, 31] from rfl, List.mem_cons, List.mem_nil_iff, or_false] at ht; rcases ht with rfl | rfl | rfl <;> exact ⟨by as_aux_lemma => kernel_rfl, of_decide_eq_true (by as_aux_lemma => kernel_rfl)⟩) rfl Tryz.underlying4 hb⟩
theorem costs_j0 : Tryz.prog.inPlace 19 = Rows.multiwayCostsRow.inPlace := by as_aux_lemma => kernel_rfl
theorem costs_j1 : Tryz.prog.unfollowed 19 = Rows.multiwayCostsRow.unfollowed := by as_aux_lemma => kernel_rfl
theorem costs_j2 : Tryz.prog.recurses 19 = Rows.multiwayCostsRow.recurses := by as_aux_lemma => kernel_rfl
theorem costs_j3 : Tryz.prog.varsNamed 19 = Rows.multiwayCostsRow.named := by as_aux_lemma => kernel_rfl
theorem costs_joined : joinedFacts Tryz.prog 19 Tryz.f19 Rows.multiwayCostsSpec Rows.multiwayCostsRow = true := by
  unfold joinedFacts
  rw [costs_j0, costs_j1, costs_j2, costs_j3, io_enter, io_lifts, io_make]
  kernel_rfl
theorem costs_holds : Rows.MultiwayCostsSaid :=
  OpenClaim.holds_of_wide 19 Tryz.f19 rfl rfl rfl rfl rfl rfl rfl ⟨rfl, rfl, rfl, rfl, rfl⟩ rfl rfl rfl rfl rfl (by as_aux_lemma => kernel_rfl) Tryz.func19 costs_joined
    (of_decide_eq_true (by as_aux_lemma => kernel_rfl)) (by unfold Func.isWrapper; first | (rw [if_pos (by decide +kernel)]; kernel_rfl) | (rw [if_neg (by decide +kernel)]; exact ⟨rfl, rfl⟩))
    (fun os started H enc _ => costs_lifted os started H enc)
theorem costs_card : Rows.MultiwayCostsCardSaid :=
  Claim7.holds_tied_plain_at .later [] [.data, .data, .data, .sentinel, .sentinel] true (true, "8da3727bd41b5459b46e191c9a7204ac1b54c7258f68ddd1a33546be5efdd15c") true
    costs_holds (fun _ h => by cases h) (by as_aux_lemma => kernel_rfl) (fun _ h => by cases h) multiwayCosts_row_tie rfl ⟨rfl, rfl⟩ io_main rfl
    (fun f fn hf hfn => by
      obtain rfl : f = 19 := Option.some.inj ((show Tryz.prog.funcNamed "apograph/apographlaw19.MultiwayCosts" = some 19 by as_aux_lemma => kernel_rfl).symm.trans hf) |>.symm
      obtain rfl : fn = Tryz.f19 := (Option.some.inj (Tryz.func19.symm.trans hfn)).symm
      exact ⟨by as_aux_lemma => kernel_rfl, fun j t ht => by
        have ht' : [23, 24, 31][j]? = some t := by rw [Tryz.params19] at ht; simpa using ht
        have hm := List.mem_of_getElem? ht'
        simp only [List.mem_cons, List.mem_nil_iff, or_false] at hm
        rcases hm with rfl | rfl | rfl <;> exact (show Tryz.prog.wantsStandIn _ = false by as_aux_lemma => kernel_rfl)⟩)
    (by as_aux_lemma => kernel_rfl)
#print axioms costs_card
end Go.Proofs.YtofikdpbagnjbaaGreatDoor
