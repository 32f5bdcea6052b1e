/- The law MultiwayChecks holds for whatever sources, columns, list and number: the tied card of its row. No condition beyond the row's own. -/
import Derived.Test.YtofikdpbagnjbaaGreatDoorJ4
import Derived.Test.YtofikdpbagnjbaaGreatDoorCards
import Derived.Test.YtofikdpbagnjbaaGreatDoorTie
set_option linter.unusedVariables false
set_option linter.unusedSimpArgs false
namespace Go.Proofs.YtofikdpbagnjbaaGreatDoor
open Go.RowKit Go.Shelf Go.ChangeShapes Go.WideShapes Go.Proofs
set_option maxRecDepth 100000
set_option maxHeartbeats 1000000

theorem checksM_spec (x : Value) (m : List (List Tok)) (y : Value) (o : List (List Int)) (u : Value) (keep : List Int) (z : Int) (w : World) (hst : Std w) (hx : Rd (wr w) [x] [.s 1 (m.map toksD)]) (hy : Rd (wr w) [y] [rowsD o]) (hu : Rd (wr w) [u] [intsD keep]) :
    Spec Tryz.prog 17 [x, y, u, .int .i64 z] w (fun v R => v = .bool true ∧ R = []) := by
  obtain ⟨A, ca, l, rfl, hnb, hs, hl, -⟩ := hx.toksL
  have hy0 := hy
  have hu0 := hu
  obtain ⟨Ao, co, cso, rfl, ho1, ho2, hos, horows⟩ := hy.tabS
  obtain ⟨Au, cu, rfl, hub, hus⟩ := hu.ints
  refine spec_of sg Tryz.func17 rfl rfl rfl ?_
  repeat' (first | refine d1 ?_ | refine dd ?_ | (show T _ (.ops _ (_ :: _) :: _) _ _ _; first | refine T_call rfl rfl rfl rfl rfl (fun w hw => great19_spec A l.length ca l 5 6 w (rdSrc hs w hw) rfl hnb ⟨fun t ht => src_below (hl.src t ht) hw.below, hl.len, hl.bd⟩ (by omega) (by omega)) ?_ | refine T_callC rfl rfl rfl rfl rfl rfl rfl (fun hg w hw => great19_spec A l.length ca l 5 6 w (rdSrc hs w hw) rfl hnb ⟨fun t ht => src_below (hl.src t ht) hw.below, hl.len, hl.bd⟩ (by omega) (by omega)) ?_ | refine T_call rfl rfl rfl rfl rfl (fun w hw => greatC19_spec _ o 16 w (hy0.old hw)) ?_ | refine T_callC rfl rfl rfl rfl rfl rfl rfl (fun hg w hw => greatC19_spec _ o 16 w (hy0.old hw)) ?_) | (show T _ (.run _ _ (_ :: _) _ _ :: _) _ _ _; first | refine rc rfl rfl rfl rfl rfl rfl rfl (fun w hw => great19_spec A l.length ca l 5 6 w (rdSrc hs w hw) rfl hnb ⟨fun t ht => src_below (hl.src t ht) hw.below, hl.len, hl.bd⟩ (by omega) (by omega)) ?_ | refine rcG rfl rfl rfl rfl rfl rfl rfl rfl rfl (fun hg w hw => great19_spec A l.length ca l 5 6 w (rdSrc hs w hw) rfl hnb ⟨fun t ht => src_below (hl.src t ht) hw.below, hl.len, hl.bd⟩ (by omega) (by omega)) ?_ | refine rc rfl rfl rfl rfl rfl rfl rfl (fun w hw => greatC19_spec _ o 16 w (hy0.old hw)) ?_ | refine rcG rfl rfl rfl rfl rfl rfl rfl rfl rfl (fun hg w hw => greatC19_spec _ o 16 w (hy0.old hw)) ?_) | (show ∀ _ : Nat, T _ _ _ _ _; intro _))
  refine T_if rfl (fun _ => ?_) (fun h => ?_)
  · repeat' (first | refine d1 ?_ | refine dd ?_ | (show T _ (.ops _ (_ :: _) :: _) _ _ _; first | refine T_call rfl rfl rfl rfl rfl (fun w hw => awake19_spec w (hst.cls hw)) ?_ | refine T_callC rfl rfl rfl rfl rfl rfl rfl (fun hg w hw => awake19_spec w (hst.cls hw)) ?_) | (show T _ (.run _ _ (_ :: _) _ _ :: _) _ _ _; first | refine rc rfl rfl rfl rfl rfl rfl rfl (fun w hw => awake19_spec w (hst.cls hw)) ?_ | refine rcG rfl rfl rfl rfl rfl rfl rfl rfl rfl (fun hg w hw => awake19_spec w (hst.cls hw)) ?_) | (show ∀ _ : Nat, T _ _ _ _ _; intro _) | (show T _ (.code .ret :: _) _ _ _; refine T_retV [] rfl (Hle.none _) ⟨rfl, rfl⟩))
  have hh : great19B l 5 6 = false ∧ greatC19 o 16 = false ∧ keep.length ≤ 8 := by
    simp only [Bool.or_eq_false_iff, decide_eq_false_iff_not] at h
    exact ⟨h.1.1, h.1.2, by omega⟩
  clear h
  obtain ⟨hgr, hgo, hk8⟩ := hh
  obtain ⟨-, ho16⟩ := greatC19_no hgo
  have hT : ∀ {w' : World} {H : List HA}, Cls w w' H → TsOk w' l := fun hw => ⟨fun t ht => src_below (hl.src t ht) hw.below, hl.len, hl.bd⟩
  repeat' (first | refine d1 ?_ | refine dd ?_ | (show T _ (.ops _ (_ :: _) :: _) _ _ _; refine T_op (OpT.call rfl rfl rfl rfl rfl (fun w hw => project19T_spec A l.length ca l _ _ o keep 5 6 w (hst.cls hw) (rdSrc hs w hw) rfl (hT hw) (hy0.old hw) (hu0.old hw) (by omega) (by omega) hgr (by omega) (by omega)) ?_)) | (show ∀ _ : Nat, T _ _ _ _ _; intro _))
  rintro v R ⟨z1, -, rfl, rfl⟩
  refine T_le (H' := [dat [z1] [rowsD (prjT l o keep).1]]) (Hle.refl _) ?_
  refine T_open fun p1 hp1 => ?_
  repeat' (first | refine d1 ?_ | refine dd ?_ | (show T _ (.ops _ (_ :: _) :: _) _ _ _; refine T_op (OpT.call rfl rfl rfl rfl rfl (fun w hw => projR19_spec A l.length ca l _ _ o keep 5 6 w (hst.cls hw) (rdSrc hs w hw) rfl (hT hw) (hy0.old hw) (hu0.old hw) (by omega) (by omega) hgr (by omega) (by omega)) ?_)) | (show ∀ _ : Nat, T _ _ _ _ _; intro _))
  rintro v R ⟨z2, -, rfl, rfl⟩
  refine T_le (H' := [dat [z2] [rowsD (prjT l o keep).1], fz p1]) (Hle.refl _) ?_
  refine T_open fun p2 hp2 => ?_
  generalize prjT l o keep = P at hp1 hp2 ⊢
  repeat' (first | refine d1 ?_ | refine dd ?_ | (show T _ (.ops _ (_ :: _) :: _) _ _ _; first | refine T_call rfl rfl rfl rfl rfl (fun w hw => sizeT_spec A l.length ca l 5 6 w (hst.cls hw) (rdSrc hs w hw) rfl (hT hw) hgr (by omega) (by omega)) ?_ | refine T_callC rfl rfl rfl rfl rfl rfl rfl (fun hg w hw => sizeT_spec A l.length ca l 5 6 w (hst.cls hw) (rdSrc hs w hw) rfl (hT hw) hgr (by omega) (by omega)) ?_ | refine T_call rfl rfl rfl rfl rfl (fun w hw => sizeRT_spec A l.length ca l 5 6 w (hst.cls hw) (rdSrc hs w hw) rfl (hT hw) hgr (by omega) (by omega)) ?_ | refine T_callC rfl rfl rfl rfl rfl rfl rfl (fun hg w hw => sizeRT_spec A l.length ca l 5 6 w (hst.cls hw) (rdSrc hs w hw) rfl (hT hw) hgr (by omega) (by omega)) ?_ | refine T_call rfl rfl rfl rfl rfl (fun w hw => check19T_spec A l.length ca l _ o 5 6 w (hst.cls hw) (rdSrc hs w hw) rfl (hT hw) (hy0.old hw) hgr (by omega) (by omega)) ?_ | refine T_callC rfl rfl rfl rfl rfl rfl rfl (fun hg w hw => check19T_spec A l.length ca l _ o 5 6 w (hst.cls hw) (rdSrc hs w hw) rfl (hT hw) (hy0.old hw) hgr (by omega) (by omega)) ?_ | refine T_call rfl rfl rfl rfl rfl (fun w hw => check19RT_spec A l.length ca l _ o 5 6 w (hst.cls hw) (rdSrc hs w hw) rfl (hT hw) (hy0.old hw) hgr (by omega) (by omega)) ?_ | refine T_callC rfl rfl rfl rfl rfl rfl rfl (fun hg w hw => check19RT_spec A l.length ca l _ o 5 6 w (hst.cls hw) (rdSrc hs w hw) rfl (hT hw) (hy0.old hw) hgr (by omega) (by omega)) ?_ | refine T_call rfl rfl rfl rfl rfl (fun w hw => sameCols19_spec z1 z2 P.1 P.1 w (hp1.own hw) (hp2.own hw)) ?_ | refine T_callC rfl rfl rfl rfl rfl rfl rfl (fun hg w hw => sameCols19_spec z1 z2 P.1 P.1 w (hp1.own hw) (hp2.own hw)) ?_) | (show T _ (.run _ _ (_ :: _) _ _ :: _) _ _ _; first | refine rc rfl rfl rfl rfl rfl rfl rfl (fun w hw => sizeT_spec A l.length ca l 5 6 w (hst.cls hw) (rdSrc hs w hw) rfl (hT hw) hgr (by omega) (by omega)) ?_ | refine rcG rfl rfl rfl rfl rfl rfl rfl rfl rfl (fun hg w hw => sizeT_spec A l.length ca l 5 6 w (hst.cls hw) (rdSrc hs w hw) rfl (hT hw) hgr (by omega) (by omega)) ?_ | refine rc rfl rfl rfl rfl rfl rfl rfl (fun w hw => sizeRT_spec A l.length ca l 5 6 w (hst.cls hw) (rdSrc hs w hw) rfl (hT hw) hgr (by omega) (by omega)) ?_ | refine rcG rfl rfl rfl rfl rfl rfl rfl rfl rfl (fun hg w hw => sizeRT_spec A l.length ca l 5 6 w (hst.cls hw) (rdSrc hs w hw) rfl (hT hw) hgr (by omega) (by omega)) ?_ | refine rc rfl rfl rfl rfl rfl rfl rfl (fun w hw => check19T_spec A l.length ca l _ o 5 6 w (hst.cls hw) (rdSrc hs w hw) rfl (hT hw) (hy0.old hw) hgr (by omega) (by omega)) ?_ | refine rcG rfl rfl rfl rfl rfl rfl rfl rfl rfl (fun hg w hw => check19T_spec A l.length ca l _ o 5 6 w (hst.cls hw) (rdSrc hs w hw) rfl (hT hw) (hy0.old hw) hgr (by omega) (by omega)) ?_ | refine rc rfl rfl rfl rfl rfl rfl rfl (fun w hw => check19RT_spec A l.length ca l _ o 5 6 w (hst.cls hw) (rdSrc hs w hw) rfl (hT hw) (hy0.old hw) hgr (by omega) (by omega)) ?_ | refine rcG rfl rfl rfl rfl rfl rfl rfl rfl rfl (fun hg w hw => check19RT_spec A l.length ca l _ o 5 6 w (hst.cls hw) (rdSrc hs w hw) rfl (hT hw) (hy0.old hw) hgr (by omega) (by omega)) ?_ | refine rc rfl rfl rfl rfl rfl rfl rfl (fun w hw => sameCols19_spec z1 z2 P.1 P.1 w (hp1.own hw) (hp2.own hw)) ?_ | refine rcG rfl rfl rfl rfl rfl rfl rfl rfl rfl (fun hg w hw => sameCols19_spec z1 z2 P.1 P.1 w (hp1.own hw) (hp2.own hw)) ?_) | (show ∀ _ : Nat, T _ _ _ _ _; intro _))
  have e80 : (decide (chkT l o = chkT l o) && decide (P.1 = P.1) && decide (P.2 = P.2) && decide ((sizT l).1 = (sizT l).1) && decide ((sizT l).2 = (sizT l).2)) = true := by simp
  rw [e80]
  refine T_known 81 rfl rfl ?_
  refine T_op (OpT.sure (p := true) rfl rfl rfl (OpT.call rfl rfl rfl rfl rfl (fun w hw => moves19_spec z w) (fun x3 R hR => ?_)))
  obtain ⟨_, -, rfl, rfl⟩ := hR
  refine T_le (H' := [dat [x3] [rowsD ((mvL z.toNat).map intN)], fz p2, fz p1]) (Hle.refl _) ?_
  refine T_open fun p3 hp3 => ?_
  repeat' (first | refine d1 ?_ | refine dd ?_ | (show ∀ _ : Nat, T _ _ _ _ _; intro _))
  refine T_known 83 rfl rfl ?_
  refine T_op (OpT.sure (p := true) rfl rfl rfl (OpT.call rfl rfl rfl rfl rfl (fun w hw => movesR_spec z w) (fun x4 R hR => ?_)))
  obtain ⟨_, -, rfl, rfl⟩ := hR
  refine T_le (H' := [dat [x4] [rowsD ((mvL z.toNat).map intN)], fz p3, fz p2, fz p1]) (Hle.refl _) ?_
  refine T_open fun p4 hp4 => ?_
  repeat' (first | refine d1 ?_ | refine dd ?_ | (show T _ (.ops _ (_ :: _) :: _) _ _ _; first | refine T_call rfl rfl rfl rfl rfl (fun w hw => sameCols19_spec x3 x4 _ _ w (hp3.own hw) (hp4.own hw)) ?_ | refine T_callC rfl rfl rfl rfl rfl rfl rfl (fun hg w hw => sameCols19_spec x3 x4 _ _ w (hp3.own hw) (hp4.own hw)) ?_ | refine T_call rfl rfl rfl rfl rfl (fun w hw => awake19_spec w (hst.cls hw)) ?_ | refine T_callC rfl rfl rfl rfl rfl rfl rfl (fun hg w hw => awake19_spec w (hst.cls hw)) ?_) | (show T _ (.run _ _ (_ :: _) _ _ :: _) _ _ _; first | refine rc rfl rfl rfl rfl rfl rfl rfl (fun w hw => sameCols19_spec x3 x4 _ _ w (hp3.own hw) (hp4.own hw)) ?_ | refine rcG rfl rfl rfl rfl rfl rfl rfl rfl rfl (fun hg w hw => sameCols19_spec x3 x4 _ _ w (hp3.own hw) (hp4.own hw)) ?_ | refine rc rfl rfl rfl rfl rfl rfl rfl (fun w hw => awake19_spec w (hst.cls hw)) ?_ | refine rcG rfl rfl rfl rfl rfl rfl rfl rfl rfl (fun hg w hw => awake19_spec w (hst.cls hw)) ?_) | (show ∀ _ : Nat, T _ _ _ _ _; intro _) | (show T _ (.code .ret :: _) _ _ _; refine T_retV [] rfl (Hle.none _) ⟨congrArg Value.bool ?_, rfl⟩))
  simp
theorem checks_met (os : Os) (args : Array Value) : laidMetH Tryz.prog Rows.multiwayChecksRow.laid ((World.doorLaid Tryz.prog 400 os).forCall (fun _ _ => 0) ⟨#[], args, []⟩).memory :=
  io_met os args
theorem checks_lifted (os : Os) (started : os.Started) (H : Type) (enc : TypeId × Value → H) :
    ReturnsInHanded {} Tryz.checked os 17 .any (fun w args => (Rows.multiwayChecksSpec.pre enc Tryz.prog Tryz.f17 [] false w args ∧ laidMetH Tryz.prog Rows.multiwayChecksRow.laid w) ∧ sizedMet enc Tryz.prog Tryz.f17 (OpenSpec.ofChange Rows.multiwayChecksSpec) false w args)
      (Rows.multiwayChecksSpec.post enc Tryz.prog Tryz.f17 false true false false) := by
  refine returnsInHanded_of_change_and (C := Tryz.checked) (X := fun w _ => laidMetH Tryz.prog Rows.multiwayChecksRow.laid w) (fun _ _ _ hh h => h.of_heap hh) knob started (by as_aux_lemma => kernel_rfl) Tryz.func17
    (ChangeSpec.witness_shaped (enc := enc) (C := Tryz.checked) (os := os) (X := fun w _ => laidMetH Tryz.prog Rows.multiwayChecksRow.laid w) false (World.doorLaid Tryz.prog 400 os) #[.slice none 0 0, .slice none 0 0, .slice none 0 0, .int .i64 0] 8 rfl (World.shaped_of_RefB (by as_aux_lemma => kernel_rfl) (by as_aux_lemma => kernel_rfl)) (by as_aux_lemma => kernel_rfl) (by as_aux_lemma => kernel_rfl) (by as_aux_lemma => kernel_rfl) (checks_met os _)) ?_
  intro W base args ds gs before hval0 hW _ _ hL _
  have hval : ∀ (j : Nat) t v, Tryz.f17.params[j]? = some t → args[j]? = some v → Value.okWide Tryz.prog W .any base t v := hval0
  have hstd := std_of (show laidMetH Tryz.prog laids W from hL)
  have hW' := hW
  obtain ⟨p, q, hA0, hV, rfl, hfz, hnd⟩ := hW
  have hA : DataW.TrodAll enc Tryz.prog W 0 (fun _ => true) true Tryz.f17.params.toList args.toList ds p := hA0
  obtain ⟨v0, vs0, d0, ds0, p0, q0, e0, rfl, rfl, h0, hA⟩ := trodAll_cons hA
  obtain ⟨v1, vs1, d1, ds1, p1, q1, rfl, rfl, rfl, h1, hA⟩ := trodAll_cons hA
  obtain ⟨v2, vs2, d2, ds2, p2, q2, rfl, rfl, rfl, h2, hA⟩ := trodAll_cons hA
  obtain ⟨v3, vs3, d3, ds3, p3, q3, rfl, rfl, rfl, h3, hA⟩ := trodAll_cons hA
  obtain ⟨rfl, rfl, rfl⟩ := trodAll_nil hA
  have ea : args = #[v0, v1, v2, v3] := Array.ext' e0
  subst ea
  obtain ⟨l, hr_l⟩ := arg_toksL (hval 0 _ v0 rfl rfl) h0
  obtain ⟨cols, hr_cols⟩ := arg_rows (hval 1 _ v1 rfl rfl) h1
  obtain ⟨k, hr_k⟩ := arg_ints (hval 2 _ v2 rfl rfl) h2
  obtain ⟨z, rfl, hb_z⟩ := arg_int (hval 3 _ v3 rfl rfl) h3
  refine (checksM_spec v0 l v1 cols v2 k z W hstd hr_l hr_cols hr_k).calls.mono ?_
  rintro e W' ⟨v, A, rfl, ⟨rfl, _⟩, hb, _⟩
  exact ⟨_, rfl, law_post hW' rfl rfl laidOk (by intro t ht; simp only [show Tryz.f17.params.toList = [24, 31, 27, 3] from rfl, List.mem_cons, List.mem_nil_iff, or_false] at ht; rcases ht with rfl | rfl | rfl | rfl <;> exact ⟨by as_aux_lemma => kernel_rfl, of_decide_eq_true (by as_aux_lemma => kernel_rfl)⟩) rfl Tryz.underlying4 hb⟩
theorem checks_j0 : Tryz.prog.inPlace 17 = Rows.multiwayChecksRow.inPlace := by as_aux_lemma => kernel_rfl
theorem checks_j1 : Tryz.prog.unfollowed 17 = Rows.multiwayChecksRow.unfollowed := by as_aux_lemma => kernel_rfl
theorem checks_j2 : Tryz.prog.recurses 17 = Rows.multiwayChecksRow.recurses := by as_aux_lemma => kernel_rfl
theorem checks_j3 : Tryz.prog.varsNamed 17 = Rows.multiwayChecksRow.named := by as_aux_lemma => kernel_rfl
theorem checks_joined : joinedFacts Tryz.prog 17 Tryz.f17 Rows.multiwayChecksSpec Rows.multiwayChecksRow = true := by
  unfold joinedFacts
  rw [checks_j0, checks_j1, checks_j2, checks_j3, io_enter, io_lifts, io_make]
  kernel_rfl
theorem checks_holds : Rows.MultiwayChecksSaid :=
  OpenClaim.holds_of_wide 17 Tryz.f17 rfl rfl rfl rfl rfl rfl rfl ⟨rfl, rfl, rfl, rfl, rfl⟩ rfl rfl rfl rfl rfl (by as_aux_lemma => kernel_rfl) Tryz.func17 checks_joined
    (of_decide_eq_true (by as_aux_lemma => kernel_rfl)) (by unfold Func.isWrapper; first | (rw [if_pos (by decide +kernel)]; kernel_rfl) | (rw [if_neg (by decide +kernel)]; exact ⟨rfl, rfl⟩))
    (fun os started H enc _ => checks_lifted os started H enc)
theorem checks_card : Rows.MultiwayChecksCardSaid :=
  Claim7.holds_tied_plain_at .later [] [.data, .data, .data, .sentinel, .sentinel] true (true, "8da3727bd41b5459b46e191c9a7204ac1b54c7258f68ddd1a33546be5efdd15c") true
    checks_holds (fun _ h => by cases h) (by as_aux_lemma => kernel_rfl) (fun _ h => by cases h) multiwayChecks_row_tie rfl ⟨rfl, rfl⟩ io_main rfl
    (fun f fn hf hfn => by
      obtain rfl : f = 17 := Option.some.inj ((show Tryz.prog.funcNamed "apograph/apographlaw19.MultiwayChecks" = some 17 by as_aux_lemma => kernel_rfl).symm.trans hf) |>.symm
      obtain rfl : fn = Tryz.f17 := (Option.some.inj (Tryz.func17.symm.trans hfn)).symm
      exact ⟨by as_aux_lemma => kernel_rfl, fun j t ht => by
        have ht' : [24, 31, 27, 3][j]? = some t := by rw [Tryz.params17] at ht; simpa using ht
        have hm := List.mem_of_getElem? ht'
        simp only [List.mem_cons, List.mem_nil_iff, or_false] at hm
        rcases hm with rfl | rfl | rfl | rfl <;> exact (show Tryz.prog.wantsStandIn _ = false by as_aux_lemma => kernel_rfl)⟩)
    (by as_aux_lemma => kernel_rfl)
#print axioms checks_card
end Go.Proofs.YtofikdpbagnjbaaGreatDoor
