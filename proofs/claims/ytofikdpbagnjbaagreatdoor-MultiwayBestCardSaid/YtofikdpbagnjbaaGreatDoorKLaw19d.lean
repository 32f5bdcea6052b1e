/- The law MultiwayBest holds for whatever costs, sources and columns: the tied card of its row. No condition beyond the row's own. -/
import Derived.Test.YtofikdpbagnjbaaGreatDoorJ4
import Derived.Test.YtofikdpbagnjbaaGreatDoorCards
import Derived.Test.YtofikdpbagnjbaaGreatDoorTie
set_option linter.unusedVariables false
set_option linter.unusedSimpArgs false
namespace Go.Proofs.YtofikdpbagnjbaaGreatDoor
open Go.RowKit Go.Shelf Go.ChangeShapes Go.WideShapes Go.Proofs
set_option maxRecDepth 100000
set_option maxHeartbeats 1000000

theorem bestM_spec (c : Costs) (x : Value) (m : List (List Tok)) (y : Value) (o : List (List Int)) (w : World) (hst : Std w) (hx : Rd (wr w) [x] [.s 1 (m.map toksD)]) (hy : Rd (wr w) [y] [rowsD o]) :
    Spec Tryz.prog 15 [c.val, x, y] w (fun v R => v = .bool true ∧ R = []) := by
  obtain ⟨A, ca, l, rfl, hnb, hs, hl, -⟩ := hx.toksL
  have hy0 := hy
  obtain ⟨Ao, co, cso, rfl, ho1, ho2, hos, horows⟩ := hy.tabS
  refine spec_of sg Tryz.func15 rfl rfl rfl ?_
  refine T_op (OpT.box (cs := c.cells) rfl rfl rfl rfl rfl rfl rfl (fun pc => ?_))
  repeat' (first | refine d1 ?_ | refine dd ?_ | (show T _ (.ops _ (_ :: _) :: _) _ _ _; refine T_op (OpT.call rfl rfl rfl rfl rfl (fun w hw => alignL_spec c A l.length ca l w (hst.cls hw) (rdSrc hs w hw) rfl hnb ⟨fun t ht => src_below (hl.src t ht) hw.below, hl.len, hl.bd⟩) ?_)) | (show ∀ _ : Nat, T _ _ _ _ _; intro _))
  rintro v R ⟨y1, cols, z, hz, rfl, rfl⟩
  cases hB : alnB c l with
  | false =>
    refine T_le (H' := [blk pc c.cells 23]) (Hle.tail _ _) ?_
    repeat' (first | refine d1 ?_ | refine dd ?_ | (show T _ (.ops _ (_ :: _) :: _) _ _ _; first | refine T_call rfl rfl rfl rfl rfl (fun w hw => greatC19_spec _ o 16 w (hy0.old hw)) ?_ | refine T_callC rfl rfl rfl rfl rfl rfl rfl (fun hg w hw => greatC19_spec _ o 16 w (hy0.old hw)) ?_ | refine T_op (OpT.never (.int .i64 0) rfl (fun hg => by (simp only [List.cons_append, List.nil_append, GP, dstL, lookE, Nat.beq, cond, List.getElem?_cons_zero, List.getElem?_cons_succ, Option.bind_some, and_true, Bool.and_eq_true, Bool.or_eq_true, Bool.and_eq_false_iff, Bool.or_eq_false_iff, Bool.not_eq_true', Bool.not_eq_false', decide_eq_true_eq, decide_eq_false_iff_not] at hg); simp at hg) rfl rfl rfl rfl rfl ?_)) | (show T _ (.run _ _ (_ :: _) _ _ :: _) _ _ _; first | refine rc rfl rfl rfl rfl rfl rfl rfl (fun w hw => greatC19_spec _ o 16 w (hy0.old hw)) ?_ | refine rcG rfl rfl rfl rfl rfl rfl rfl rfl rfl (fun hg w hw => greatC19_spec _ o 16 w (hy0.old hw)) ?_) | (show ∀ _ : Nat, T _ _ _ _ _; intro _))
    refine T_if rfl (fun _ => ?_) (fun h => by exfalso; simp at h)
    repeat' (first | refine d1 ?_ | refine dd ?_ | (show T _ (.ops _ (_ :: _) :: _) _ _ _; first | refine T_call rfl rfl rfl rfl rfl (fun w hw => awake19_spec w (hst.cls hw)) ?_ | refine T_callC rfl rfl rfl rfl rfl rfl rfl (fun hg w hw => awake19_spec w (hst.cls hw)) ?_) | (show T _ (.run _ _ (_ :: _) _ _ :: _) _ _ _; first | refine rc rfl rfl rfl rfl rfl rfl rfl (fun w hw => awake19_spec w (hst.cls hw)) ?_ | refine rcG rfl rfl rfl rfl rfl rfl rfl rfl rfl (fun hg w hw => awake19_spec w (hst.cls hw)) ?_) | (show ∀ _ : Nat, T _ _ _ _ _; intro _) | (show T _ (.code .ret :: _) _ _ _; refine T_retV [] rfl (Hle.none _) ⟨rfl, rfl⟩))
  | true =>
    obtain ⟨rfl, rfl⟩ := hz hB
    obtain ⟨hu, h1, h4, hq, hv, ha, -⟩ := alnB_pure hB
    have hgp := alnB_grp hst hs rfl hl hB
    obtain ⟨-, hc, -⟩ := usV_ok hu
    refine T_le (H' := [dat [y1] [rowsD (alnW c l)], blk pc c.cells 23]) (Hle.refl _) ?_
    repeat' (first | refine d1 ?_ | refine dd ?_ | (show T _ (.ops _ (_ :: _) :: _) _ _ _; first | refine T_call rfl rfl rfl rfl rfl (fun w hw => greatC19_spec _ o 16 w (hy0.old hw)) ?_ | refine T_callC rfl rfl rfl rfl rfl rfl rfl (fun hg w hw => greatC19_spec _ o 16 w (hy0.old hw)) ?_ | refine T_call rfl rfl rfl rfl rfl (fun w hw => check19_spec A l.length ca l _ o w (hgp.cls hw) (hy0.old hw)) ?_ | refine T_callC rfl rfl rfl rfl rfl rfl rfl (fun hg w hw => check19_spec A l.length ca l _ o w (hgp.cls hw) (hy0.old hw)) ?_) | (show T _ (.run _ _ (_ :: _) _ _ :: _) _ _ _; first | refine rc rfl rfl rfl rfl rfl rfl rfl (fun w hw => greatC19_spec _ o 16 w (hy0.old hw)) ?_ | refine rcG rfl rfl rfl rfl rfl rfl rfl rfl rfl (fun hg w hw => greatC19_spec _ o 16 w (hy0.old hw)) ?_ | refine rc rfl rfl rfl rfl rfl rfl rfl (fun w hw => check19_spec A l.length ca l _ o w (hgp.cls hw) (hy0.old hw)) ?_ | refine rcG rfl rfl rfl rfl rfl rfl rfl rfl rfl (fun hg w hw => check19_spec A l.length ca l _ o w (hgp.cls hw) (hy0.old hw)) ?_) | (show ∀ _ : Nat, T _ _ _ _ _; intro _))
    refine T_if rfl (fun h => ?_) (fun h => ?_)
    · repeat' (first | refine d1 ?_ | refine dd ?_ | (show T _ (.ops _ (_ :: _) :: _) _ _ _; first | refine T_call rfl rfl rfl rfl rfl (fun w hw => awake19_spec w (hst.cls hw)) ?_ | refine T_callC rfl rfl rfl rfl rfl rfl rfl (fun hg w hw => awake19_spec w (hst.cls hw)) ?_) | (show T _ (.run _ _ (_ :: _) _ _ :: _) _ _ _; first | refine rc rfl rfl rfl rfl rfl rfl rfl (fun w hw => awake19_spec w (hst.cls hw)) ?_ | refine rcG rfl rfl rfl rfl rfl rfl rfl rfl rfl (fun hg w hw => awake19_spec w (hst.cls hw)) ?_) | (show ∀ _ : Nat, T _ _ _ _ _; intro _) | (show T _ (.code .ret :: _) _ _ _; refine T_retV [] rfl (Hle.none _) ⟨rfl, rfl⟩))
    have hgo : greatC19 o 16 = false ∧ chkC l o = 0 := by simpa using h
    clear h
    obtain ⟨hgo, hck⟩ := hgo
    have hok : ColsOk (lens l) o := Classical.byContradiction fun h9 => by rw [chkC_bad (by omega) h9] at hck; omega
    obtain ⟨-, ho16⟩ := greatC19_no hgo
    have e : costW c l o = (totZ c l o, 0) := by unfold costW; rw [if_neg (by simpa using hu), if_pos (okC_true hok)]
    have hle := lstV_le hc h1 h4 hok
    repeat' (first | refine d1 ?_ | refine dd ?_ | (show T _ (.ops _ (_ :: _) :: _) _ _ _; first | refine T_call rfl rfl rfl rfl rfl (fun w hw => costSum19_spec c A l.length ca l _ o w (hgp.cls hw) (hy0.old hw) (by omega)) ?_ | refine T_callC rfl rfl rfl rfl rfl rfl rfl (fun hg w hw => costSum19_spec c A l.length ca l _ o w (hgp.cls hw) (hy0.old hw) (by omega)) ?_) | (show T _ (.run _ _ (_ :: _) _ _ :: _) _ _ _; first | refine rc rfl rfl rfl rfl rfl rfl rfl (fun w hw => costSum19_spec c A l.length ca l _ o w (hgp.cls hw) (hy0.old hw) (by omega)) ?_ | refine rcG rfl rfl rfl rfl rfl rfl rfl rfl rfl (fun hg w hw => costSum19_spec c A l.length ca l _ o w (hgp.cls hw) (hy0.old hw) (by omega)) ?_) | (show ∀ _ : Nat, T _ _ _ _ _; intro _))
    rw [e]
    refine T_if rfl (fun h => by exfalso; simp at h; omega) (fun _ => ?_)
    repeat' (first | refine d1 ?_ | refine dd ?_ | (show ∀ _ : Nat, T _ _ _ _ _; intro _))
    refine T_if rfl (fun h => ?_) (fun h => ?_)
    · repeat' (first | refine d1 ?_ | refine dd ?_ | (show T _ (.ops _ (_ :: _) :: _) _ _ _; first | refine T_call rfl rfl rfl rfl rfl (fun w hw => awake19_spec w (hst.cls hw)) ?_ | refine T_callC rfl rfl rfl rfl rfl rfl rfl (fun hg w hw => awake19_spec w (hst.cls hw)) ?_) | (show T _ (.run _ _ (_ :: _) _ _ :: _) _ _ _; first | refine rc rfl rfl rfl rfl rfl rfl rfl (fun w hw => awake19_spec w (hst.cls hw)) ?_ | refine rcG rfl rfl rfl rfl rfl rfl rfl rfl rfl (fun hg w hw => awake19_spec w (hst.cls hw)) ?_) | (show ∀ _ : Nat, T _ _ _ _ _; intro _) | (show T _ (.code .ret :: _) _ _ _; refine T_retV [] rfl (Hle.none _) ⟨rfl, rfl⟩))
    have heq : totZ c l o = lstV c l := by simp only [decide_eq_false_iff_not] at h; omega
    clear h
    obtain ⟨hb1, hb2⟩ := best_law hc h1 h4 hok heq
    obtain ⟨hokA, -⟩ := alnW_ok hc h1 h4
    have hlA := hokA.short
    have hsq := sumL_lensQ hq
    generalize alnW c l = a at hb1 hb2 hokA hlA ⊢
    refine T_open fun p hp => ?_
    obtain ⟨Aa, capa, csa, rfl, ha1, ha2, hal, har, harows⟩ := hp.tab
    repeat' (first | refine d1 ?_ | refine dd ?_ | (show ∀ _ : Nat, T _ _ _ _ _; intro _))
    refine T_loopX (fun i : Nat => [(58, .int .i64 (i : Nat))]) (fun _ => [fz p, blk pc c.cells 23]) (fun i => i ≤ min a.length o.length ∧ ∀ j, j < i → mvI (a.getD j []) = mvI (o.getD j [])) (fun i => min a.length o.length - i) 0 ⟨Nat.zero_le _, fun j h => by omega⟩ ?_
    rintro i ⟨hi, hsame⟩
    repeat' (first | refine d1 ?_ | refine dd ?_ | (show ∀ _ : Nat, T _ _ _ _ _; intro _))
    refine T_if rfl (fun h3 => ?_) (fun h3 => ?_)
    · simp only [decide_eq_true_eq] at h3
      have hia : i < a.length := by omega
      have hio : i < o.length := by omega
      obtain ⟨ba, oa, rfl, hra⟩ := har (by omega)
      obtain ⟨bo, oo, rfl⟩ := hos.base (by omega)
      obtain ⟨ra, hra9⟩ : ∃ r, a[i]? = some r := ⟨_, List.getElem?_eq_getElem hia⟩
      obtain ⟨ro9, hro9⟩ : ∃ r, o[i]? = some r := ⟨_, List.getElem?_eq_getElem hio⟩
      obtain ⟨Ara, capra, hca, -, -, -⟩ := harows.tabRow hra9
      obtain ⟨Aro, capro, hcO, -, -, hAo⟩ := horows.tabRow hro9
      have hr0 := rowHd hos hio hcO
      have hso := rowSrc hAo
      have hla : ra.length = l.length := by rw [hokA.len ra (List.mem_of_getElem? hra9), lens_len]
      have hlo : ro9.length = l.length := by rw [hok.len ro9 (List.mem_of_getElem? hro9), lens_len]
      have ega : a.getD i [] = ra := by rw [List.getD_eq_getElem?_getD, hra9]; rfl
      have ego : o.getD i [] = ro9 := by rw [List.getD_eq_getElem?_getD, hro9]; rfl
      have hsa : ∀ {w' : World} {H : List HA} [FocusZ H p], Cls w w' H → Src w' 1 Ara ra.length (ra.map (Value.int .i64)) := fun hw => ((rd_one harows hca (by rw [List.getElem?_map, hra9]; rfl)).own hw).intsAt
      have hb1' := hb1 i hia hio hsame
      rw [ega, ego] at hb1'
      repeat' (first | refine d1 ?_ | (show ∀ _ : Nat, T _ _ _ _ _; intro _))
      refine rsH [fz p, blk pc c.cells 23] 1000 [0, 1, 2, 3, 5, 6, 7, 8, 4, 9, 10, 11] ?_
      repeat' (first | refine d1 ?_ | refine dd ?_ | (show T _ (.ops _ (_ :: _) :: _) _ _ _; first | refine T_val rfl (Val.load rfl (fun hg => rdFz (p := p) (u := .slice Ara ra.length capra) (b := ba) (by rw [off1]; exact hra i _ hca))) rfl rfl rfl ?_ | refine T_valC rfl (Val.load rfl (fun hg => rdFz (p := p) (u := .slice Ara ra.length capra) (b := ba) (by rw [off1]; exact hra i _ hca))) rfl rfl rfl rfl rfl ?_ | refine T_val rfl (Val.load rfl (fun hg => rdOld hr0)) rfl rfl rfl ?_ | refine T_valC rfl (Val.load rfl (fun hg => rdOld hr0)) rfl rfl rfl rfl rfl ?_) | (show T _ (.run _ _ (_ :: _) _ _ :: _) _ _ _; first | refine rv rfl rfl rfl (Val.load rfl (fun hg => rdFz (p := p) (u := .slice Ara ra.length capra) (b := ba) (by rw [off1]; exact hra i _ hca))) rfl rfl rfl ?_ | refine rg rfl rfl rfl (Val.load rfl (fun hg => rdFz (p := p) (u := .slice Ara ra.length capra) (b := ba) (by rw [off1]; exact hra i _ hca))) rfl rfl rfl rfl rfl ?_ | refine rv rfl rfl rfl (Val.load rfl (fun hg => rdOld hr0)) rfl rfl rfl ?_ | refine rg rfl rfl rfl (Val.load rfl (fun hg => rdOld hr0)) rfl rfl rfl rfl rfl ?_ | refine ro rfl rfl (OpT.callE1 rfl rfl rfl rfl rfl (fun w hw => move19_spec Ara ra.length capra ra w (hsa hw) rfl (by omega)) (fun x1 _ => ⟨fun _ => Hle.tail _ _, ?_⟩)) | refine ro rfl rfl (OpT.callE1 rfl rfl rfl rfl rfl (fun w hw => move19_spec Aro ro9.length capro ro9 w (rdSrc hso w hw) rfl (by omega)) (fun x2 _ => ⟨fun _ => (Hle.tail _ _).trans (Hle.tail _ _), ?_⟩))) | (show ∀ _ : Nat, T _ _ _ _ _; intro _))
      refine T_le (H' := [dat [x1] [intsD (mvI ra)], dat [x2] [intsD (mvI ro9)], fz p, blk pc c.cells 23]) (Hle.perm (List.Perm.swap _ _ _)) ?_
      refine T_open fun p1 hp1 => ?_
      refine T_le (H' := [dat [x2] [intsD (mvI ro9)], fz p1, fz p, blk pc c.cells 23]) (Hle.perm (List.Perm.swap _ _ _)) ?_
      refine T_open fun p2 hp2 => ?_
      have hp1' := hp1
      have hp2' := hp2
      obtain ⟨A1, c1, rfl, -⟩ := hp1.row1
      obtain ⟨A2, c2, rfl, -⟩ := hp2.row1
      have hm1 := mvI_len ra
      have hm2 := mvI_len ro9
      repeat' (first | refine d1 ?_ | refine dd ?_ | (show T _ (.ops _ (_ :: _) :: _) _ _ _; first | refine T_call rfl rfl rfl rfl rfl (fun w hw => equalI_spec _ _ (mvI ra) (mvI ro9) w (hp1'.own hw) (hp2'.own hw)) ?_ | refine T_callC rfl rfl rfl rfl rfl rfl rfl (fun hg w hw => equalI_spec _ _ (mvI ra) (mvI ro9) w (hp1'.own hw) (hp2'.own hw)) ?_) | (show T _ (.run _ _ (_ :: _) _ _ :: _) _ _ _; first | refine rc rfl rfl rfl rfl rfl rfl rfl (fun w hw => equalI_spec _ _ (mvI ra) (mvI ro9) w (hp1'.own hw) (hp2'.own hw)) ?_ | refine rcG rfl rfl rfl rfl rfl rfl rfl rfl rfl (fun hg w hw => equalI_spec _ _ (mvI ra) (mvI ro9) w (hp1'.own hw) (hp2'.own hw)) ?_) | (show ∀ _ : Nat, T _ _ _ _ _; intro _))
      refine T_if rfl (fun h5 => ?_) (fun h5 => ?_)
      · have hne : mvI ra ≠ mvI ro9 := by simpa using h5
        repeat' (first | refine d1 ?_ | refine dd ?_ | (show T _ (.ops _ (_ :: _) :: _) _ _ _; first | refine T_call rfl rfl rfl rfl rfl (fun w hw => before19_spec A1 A2 c1 c2 (mvI ra) (mvI ro9) w ((hp1'.own hw).intsAt) ((hp2'.own hw).intsAt) (by omega) (by omega)) ?_ | refine T_callC rfl rfl rfl rfl rfl rfl rfl (fun hg w hw => before19_spec A1 A2 c1 c2 (mvI ra) (mvI ro9) w ((hp1'.own hw).intsAt) ((hp2'.own hw).intsAt) (by omega) (by omega)) ?_ | refine T_call rfl rfl rfl rfl rfl (fun w hw => awake19_spec w (hst.cls hw)) ?_ | refine T_callC rfl rfl rfl rfl rfl rfl rfl (fun hg w hw => awake19_spec w (hst.cls hw)) ?_) | (show T _ (.run _ _ (_ :: _) _ _ :: _) _ _ _; first | refine rc rfl rfl rfl rfl rfl rfl rfl (fun w hw => before19_spec A1 A2 c1 c2 (mvI ra) (mvI ro9) w ((hp1'.own hw).intsAt) ((hp2'.own hw).intsAt) (by omega) (by omega)) ?_ | refine rcG rfl rfl rfl rfl rfl rfl rfl rfl rfl (fun hg w hw => before19_spec A1 A2 c1 c2 (mvI ra) (mvI ro9) w ((hp1'.own hw).intsAt) ((hp2'.own hw).intsAt) (by omega) (by omega)) ?_ | refine rc rfl rfl rfl rfl rfl rfl rfl (fun w hw => awake19_spec w (hst.cls hw)) ?_ | refine rcG rfl rfl rfl rfl rfl rfl rfl rfl rfl (fun hg w hw => awake19_spec w (hst.cls hw)) ?_) | (show ∀ _ : Nat, T _ _ _ _ _; intro _) | (show T _ (.code .ret :: _) _ _ _; refine T_retV [] rfl (Hle.none _) ⟨congrArg Value.bool ?_, rfl⟩))
        rw [hb1' hne]; rfl
      · have heq9 : mvI ra = mvI ro9 := by simpa using h5
        repeat' (first | refine d1 ?_ | refine dd ?_ | (show ∀ _ : Nat, T _ _ _ _ _; intro _))
        refine T_backX (i + 1) ⟨by omega, fun j hj => ?_⟩ (by omega) (hG := Hle.srt)
        rcases Nat.lt_or_ge j i with h6 | h6
        · exact hsame j h6
        · rw [show j = i by omega, ega, ego]; exact heq9
    · simp only [decide_eq_false_iff_not] at h3
      have hend := hb2 fun j hj1 hj2 => hsame j (by omega)
      repeat' (first | refine d1 ?_ | refine dd ?_ | (show T _ (.ops _ (_ :: _) :: _) _ _ _; first | refine T_call rfl rfl rfl rfl rfl (fun w hw => awake19_spec w (hst.cls hw)) ?_ | refine T_callC rfl rfl rfl rfl rfl rfl rfl (fun hg w hw => awake19_spec w (hst.cls hw)) ?_) | (show T _ (.run _ _ (_ :: _) _ _ :: _) _ _ _; first | refine rc rfl rfl rfl rfl rfl rfl rfl (fun w hw => awake19_spec w (hst.cls hw)) ?_ | refine rcG rfl rfl rfl rfl rfl rfl rfl rfl rfl (fun hg w hw => awake19_spec w (hst.cls hw)) ?_) | (show ∀ _ : Nat, T _ _ _ _ _; intro _) | (show T _ (.code .ret :: _) _ _ _; refine T_retV [] rfl (Hle.none _) ⟨congrArg Value.bool ?_, rfl⟩))
      simp [hend]
theorem best_met (os : Os) (args : Array Value) : laidMetH Tryz.prog Rows.multiwayBestRow.laid ((World.doorLaid Tryz.prog 400 os).forCall (fun _ _ => 0) ⟨#[], args, []⟩).memory :=
  laidMetH_of_parts3 (fuel := 8) (laidMet_of_run' 8 (by as_aux_lemma => kernel_rfl) (by as_aux_lemma => kernel_rfl)) (by as_aux_lemma => kernel_rfl) (by as_aux_lemma => kernel_rfl)
theorem best_lifted (os : Os) (started : os.Started) (H : Type) (enc : TypeId × Value → H) :
    ReturnsInHanded {} Tryz.checked os 15 .any (fun w args => (Rows.multiwayBestSpec.pre enc Tryz.prog Tryz.f15 [] false w args ∧ laidMetH Tryz.prog Rows.multiwayBestRow.laid w) ∧ sizedMet enc Tryz.prog Tryz.f15 (OpenSpec.ofChange Rows.multiwayBestSpec) false w args)
      (Rows.multiwayBestSpec.post enc Tryz.prog Tryz.f15 false true false false) := by
  refine returnsInHanded_of_change_and (C := Tryz.checked) (X := fun w _ => laidMetH Tryz.prog Rows.multiwayBestRow.laid w) (fun _ _ _ hh h => h.of_heap hh) knob started (by as_aux_lemma => kernel_rfl) Tryz.func15
    (ChangeSpec.witness_shaped (enc := enc) (C := Tryz.checked) (os := os) (X := fun w _ => laidMetH Tryz.prog Rows.multiwayBestRow.laid w) false (World.doorLaid Tryz.prog 400 os) #[(⟨0, 0, 0, 0⟩ : Costs).val, .slice none 0 0, .slice none 0 0] 8 rfl (World.shaped_of_RefB (by as_aux_lemma => kernel_rfl) (by as_aux_lemma => kernel_rfl)) (by as_aux_lemma => kernel_rfl) (by as_aux_lemma => kernel_rfl) (by as_aux_lemma => kernel_rfl) (best_met os _)) ?_
  intro W base args ds gs before hval0 hW _ _ hL _
  have hval : ∀ (j : Nat) t v, Tryz.f15.params[j]? = some t → args[j]? = some v → Value.okWide Tryz.prog W .any base t v := hval0
  have hstd := std_of (show laidMetH Tryz.prog laids W from hL)
  have hW' := hW
  obtain ⟨p, q, hA0, hV, rfl, hfz, hnd⟩ := hW
  have hA : DataW.TrodAll enc Tryz.prog W 0 (fun _ => true) true Tryz.f15.params.toList args.toList ds p := hA0
  obtain ⟨v0, vs0, d0, ds0, p0, q0, e0, rfl, rfl, h0, hA⟩ := trodAll_cons hA
  obtain ⟨v1, vs1, d1, ds1, p1, q1, rfl, rfl, rfl, h1, hA⟩ := trodAll_cons hA
  obtain ⟨v2, vs2, d2, ds2, p2, q2, rfl, rfl, rfl, h2, hA⟩ := trodAll_cons hA
  obtain ⟨rfl, rfl, rfl⟩ := trodAll_nil hA
  have ea : args = #[v0, v1, v2] := Array.ext' e0
  subst ea
  obtain ⟨c, rfl⟩ := arg_costs (hval 0 _ v0 rfl rfl) h0
  obtain ⟨l, hr_l⟩ := arg_toksL (hval 1 _ v1 rfl rfl) h1
  obtain ⟨cols, hr_cols⟩ := arg_rows (hval 2 _ v2 rfl rfl) h2
  refine (bestM_spec c v1 l v2 cols W hstd hr_l hr_cols).calls.mono ?_
  rintro e W' ⟨v, A, rfl, ⟨rfl, _⟩, hb, _⟩
  exact ⟨_, rfl, law_post hW' rfl rfl laidOk (by intro t ht; simp only [show Tryz.f15.params.toList = [23, 24, 31] from rfl, List.mem_cons, List.mem_nil_iff, or_false] at ht; rcases ht with rfl | rfl | rfl <;> exact ⟨by as_aux_lemma => kernel_rfl, of_decide_eq_true (by as_aux_lemma => kernel_rfl)⟩) rfl Tryz.underlying4 hb⟩
theorem best_j0 : Tryz.prog.inPlace 15 = Rows.multiwayBestRow.inPlace := by as_aux_lemma => kernel_rfl
theorem best_j1 : Tryz.prog.unfollowed 15 = Rows.multiwayBestRow.unfollowed := by as_aux_lemma => kernel_rfl
theorem best_j2 : Tryz.prog.recurses 15 = Rows.multiwayBestRow.recurses := by as_aux_lemma => kernel_rfl
theorem best_j3 : Tryz.prog.varsNamed 15 = Rows.multiwayBestRow.named := by as_aux_lemma => kernel_rfl
theorem best_joined : joinedFacts Tryz.prog 15 Tryz.f15 Rows.multiwayBestSpec Rows.multiwayBestRow = true := by
  unfold joinedFacts
  rw [best_j0, best_j1, best_j2, best_j3, io_enter, io_lifts, io_make]
  kernel_rfl
theorem best_holds : Rows.MultiwayBestSaid :=
  OpenClaim.holds_of_wide 15 Tryz.f15 rfl rfl rfl rfl rfl rfl rfl ⟨rfl, rfl, rfl, rfl, rfl⟩ rfl rfl rfl rfl rfl (by as_aux_lemma => kernel_rfl) Tryz.func15 best_joined
    (of_decide_eq_true (by as_aux_lemma => kernel_rfl)) (by unfold Func.isWrapper; first | (rw [if_pos (by decide +kernel)]; kernel_rfl) | (rw [if_neg (by decide +kernel)]; exact ⟨rfl, rfl⟩))
    (fun os started H enc _ => best_lifted os started H enc)
theorem best_card : Rows.MultiwayBestCardSaid :=
  Claim7.holds_tied_plain_at .later [] [.data, .data, .data, .sentinel, .sentinel] true (true, "8da3727bd41b5459b46e191c9a7204ac1b54c7258f68ddd1a33546be5efdd15c") true
    best_holds (fun _ h => by cases h) (by as_aux_lemma => kernel_rfl) (fun _ h => by cases h) multiwayBest_row_tie rfl ⟨rfl, rfl⟩ io_main rfl
    (fun f fn hf hfn => by
      obtain rfl : f = 15 := Option.some.inj ((show Tryz.prog.funcNamed "apograph/apographlaw19.MultiwayBest" = some 15 by as_aux_lemma => kernel_rfl).symm.trans hf) |>.symm
      obtain rfl : fn = Tryz.f15 := (Option.some.inj (Tryz.func15.symm.trans hfn)).symm
      exact ⟨by as_aux_lemma => kernel_rfl, fun j t ht => by
        have ht' : [23, 24, 31][j]? = some t := by rw [Tryz.params15] at ht; simpa using ht
        have hm := List.mem_of_getElem? ht'
        simp only [List.mem_cons, List.mem_nil_iff, or_false] at hm
        rcases hm with rfl | rfl | rfl <;> exact (show Tryz.prog.wantsStandIn _ = false by as_aux_lemma => kernel_rfl)⟩)
    (by as_aux_lemma => kernel_rfl)
#print axioms best_card
end Go.Proofs.YtofikdpbagnjbaaGreatDoor
