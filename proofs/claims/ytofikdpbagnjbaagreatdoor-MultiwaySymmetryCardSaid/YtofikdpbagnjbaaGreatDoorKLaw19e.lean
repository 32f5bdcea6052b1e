/- The law MultiwaySymmetry holds for whatever costs and sources: the tied card of its row. No condition beyond the row's own. -/
import Derived.Test.YtofikdpbagnjbaaGreatDoorJ4
import Derived.Test.YtofikdpbagnjbaaGreatDoorCards
import Derived.Test.YtofikdpbagnjbaaGreatDoorTie
set_option linter.unusedVariables false
set_option linter.unusedSimpArgs false
namespace Go.Proofs.YtofikdpbagnjbaaGreatDoor
open Go.RowKit Go.Shelf Go.ChangeShapes Go.WideShapes Go.Proofs
set_option maxRecDepth 100000
set_option maxHeartbeats 1000000

theorem symM_spec (c : Costs) (x : Value) (m : List (List Tok)) (w : World) (hst : Std w) (hx : Rd (wr w) [x] [.s 1 (m.map toksD)]) :
    Spec Tryz.prog 13 [c.val, x] w (fun v R => v = .bool true ∧ R = []) := by
  obtain ⟨A, ca, l, rfl, hnb, hs, hl, -⟩ := hx.toksL
  refine spec_of sg Tryz.func13 rfl rfl rfl ?_
  refine T_op (OpT.box (cs := c.cells) rfl rfl rfl rfl rfl rfl rfl (fun pc => ?_))
  repeat' (first | refine d1 ?_ | refine dd ?_ | (show T _ (.ops _ (_ :: _) :: _) _ _ _; refine T_op (OpT.call rfl rfl rfl rfl rfl (fun w hw => alignL_spec c A l.length ca l w (hst.cls hw) (rdSrc hs w hw) rfl hnb ⟨fun t ht => src_below (hl.src t ht) hw.below, hl.len, hl.bd⟩) ?_)) | (show ∀ _ : Nat, T _ _ _ _ _; intro _))
  rintro v R ⟨y, cols, z, hz, rfl, rfl⟩
  refine T_le (H' := [blk pc c.cells 23]) (Hle.tail _ _) ?_
  cases hB : alnB c l with
  | false =>
    repeat' (first | refine d1 ?_ | refine dd ?_ | (show ∀ _ : Nat, T _ _ _ _ _; intro _))
    refine T_if rfl (fun _ => ?_) (fun h => by exfalso; simp at h)
    repeat' (first | refine d1 ?_ | refine dd ?_ | (show T _ (.ops _ (_ :: _) :: _) _ _ _; first | refine T_call rfl rfl rfl rfl rfl (fun w hw => awake19_spec w (hst.cls hw)) ?_ | refine T_callC rfl rfl rfl rfl rfl rfl rfl (fun hg w hw => awake19_spec w (hst.cls hw)) ?_) | (show T _ (.run _ _ (_ :: _) _ _ :: _) _ _ _; first | refine rc rfl rfl rfl rfl rfl rfl rfl (fun w hw => awake19_spec w (hst.cls hw)) ?_ | refine rcG rfl rfl rfl rfl rfl rfl rfl rfl rfl (fun hg w hw => awake19_spec w (hst.cls hw)) ?_) | (show ∀ _ : Nat, T _ _ _ _ _; intro _) | (show T _ (.code .ret :: _) _ _ _; refine T_retV [] rfl (Hle.none _) ⟨rfl, rfl⟩))
  | true =>
    obtain ⟨-, rfl⟩ := hz hB
    obtain ⟨hu, h1, h4, hq, hv, ha, -⟩ := alnB_pure hB
    have hgp := alnB_grp hst hs rfl hl hB
    repeat' (first | refine d1 ?_ | refine dd ?_ | (show ∀ _ : Nat, T _ _ _ _ _; intro _))
    refine T_if rfl (fun h => by exfalso; simp at h) (fun _ => ?_)
    repeat' (first | refine d1 ?_ | refine dd ?_ | (show T _ (.ops _ (_ :: _) :: _) _ _ _; refine T_callE rfl rfl rfl rfl rfl (fun w hw => cloneS_spec A l.length ca l w (rdSrc hs w hw) (by omega)) (fun xo _ => ?_)) | (show ∀ _ : Nat, T _ _ _ _ _; intro _))
    obtain ⟨Ao, co⟩ := xo
    dsimp only
    repeat' (first | refine d1 ?_ | refine dd ?_ | (show T _ (.ops _ (_ :: _) :: _) _ _ _; refine T_op (OpT.callB rfl rfl rfl rfl rfl (reverseS_spec Ao l.length co co l _ _ rfl (by omega)) (fun u R hR => ?_))) | (show ∀ _ : Nat, T _ _ _ _ _; intro _))
    obtain ⟨rfl, rfl⟩ := hR
    repeat' (first | refine d1 ?_ | refine dd ?_ | (show ∀ _ : Nat, T _ _ _ _ _; intro _))
    refine T_le (dat_nil _) ?_
    refine T_nilrow 40 1 ?_
    refine T_loopX (fun s : Nat × (Option Addr × Nat) × List Value => [(35, .int .i64 (s.1 : Nat)), (9, .slice s.2.1.1 s.1 s.2.1.2)]) (fun s => [row 40 1 s.2.1.1 s.2.1.2 s.1 s.2.2, dat s.2.2 ((l.take s.1).map fun t => toksD t.l.reverse), row 40 1 Ao co l.length (l.reverse.map TS.val), blk pc c.cells 23]) (fun s => s.1 ≤ l.length) (fun s => l.length - s.1) (0, (none, 0), []) (Nat.zero_le _) ?_
    rintro ⟨i, ⟨Ab, capb⟩, hs9⟩ hi
    dsimp only at hi ⊢
    repeat' (first | refine d1 ?_ | refine dd ?_ | (show ∀ _ : Nat, T _ _ _ _ _; intro _))
    refine T_if rfl (fun h => ?_) (fun h => ?_)
    · simp only [decide_eq_true_eq] at h
      have hin : i < l.length := by omega
      obtain ⟨b, o, rfl⟩ := hs.base (by omega)
      obtain ⟨t, ht, htm, hr⟩ := hgp.get hin
      have htn := hgp.nb t htm
      have hst9 := hgp.ok.src t htm
      have hsl := hgp.ok.len t htm
      have htk := take_snoc _ _ _ ht
      repeat' (first | refine d1 ?_ | refine dd ?_ | (show T _ (.ops _ (_ :: _) :: _) _ _ _; refine T_callE rfl rfl rfl rfl rfl (fun w hw => cloneT_spec t.A t.n t.cap t.l w (rdSrc hst9 w hw) (by omega)) (fun xt _ => ?_)) | (show ∀ _ : Nat, T _ _ _ _ _; intro _))
      obtain ⟨At, ct⟩ := xt
      dsimp only
      repeat' (first | refine d1 ?_ | refine dd ?_ | (show T _ (.ops _ (_ :: _) :: _) _ _ _; refine T_op (OpT.callB rfl rfl rfl rfl rfl (reverseT_spec At t.n ct ct t.l _ _ hsl (by omega)) (fun u R hR => ?_))) | (show ∀ _ : Nat, T _ _ _ _ _; intro _))
      obtain ⟨rfl, rfl⟩ := hR
      have et : ((l.take (i + 1)).map fun t => toksD t.l.reverse) = ((l.take i).map fun t => toksD t.l.reverse) ++ [toksD t.l.reverse] := by rw [htk, List.map_append]; rfl
      rename_i b9
      refine T_le (H' := [blk b9 (flatP [(0, .slice At t.n ct)]) 40, row 40 1 Ab capb i hs9, dat (hs9 ++ [.slice At t.n ct]) ((l.take (i + 1)).map fun t => toksD t.l.reverse), row 40 1 Ao co l.length (l.reverse.map TS.val), blk pc c.cells 23]) ?_ ?_
      · have ei : toksD t.l.reverse = .s 6 ((t.l.reverse.flatMap Tok.cells).map .v) := rfl
        rw [et, ei]
        exact (Hle.perm (List.Perm.swap _ _ _)).trans ((dat_rowV (e := 80) (sz := 6) (cs := t.l.reverse.flatMap Tok.cells)).trans ((Hle.srt (K := [dat [.slice At t.n ct] [.s 6 ((t.l.reverse.flatMap Tok.cells).map .v)], dat hs9 ((l.take i).map fun t => toksD t.l.reverse), blk b9 (flatP [(0, .slice At t.n ct)]) 40, row 40 1 Ab capb i hs9, row 40 1 Ao co l.length (l.reverse.map TS.val), blk pc c.cells 23])).trans (dat_join.trans Hle.srt)))
      repeat' (first | refine d1 ?_ | refine dd ?_ | (show T _ (.ops _ (_ :: _) :: _) _ _ _; refine T_op (OpT.append (A := Ab) rfl rfl rfl rfl rfl rfl rfl rfl rfl rfl (fun w hw => Src.own hw rfl) rfl (by dsimp only; omega) (by omega) (fun A' cap' hA' => ?_))) | (show ∀ _ : Nat, T _ _ _ _ _; intro _))
      exact T_backX (i + 1, (A', cap'), hs9 ++ [.slice At t.n ct]) (by dsimp only; omega) (by dsimp only; omega) (hE := ⟨rfl, rfl, trivial⟩) (hG := Hle.tail _ _)
    · simp only [decide_eq_false_iff_not] at h
      obtain rfl : i = l.length := by omega
      rw [List.take_of_length_le (Nat.le_refl _)]
      refine T_le (H' := [dat [.slice Ab l.length capb] [.s 1 ((l.map fun t => t.l.reverse).map toksD)], row 40 1 Ao co l.length (l.reverse.map TS.val), blk pc c.cells 23]) (by rw [List.map_map]; exact dat_row) ?_
      refine T_open fun p hp => ?_
      have hgr : ∀ {w' : World} {H : List HA} {Ar : Option Addr}, Cls w w' H → Src w' 1 Ar l.length (l.reverse.map TS.val) → Grp w' Ar l.length l.reverse := fun hw hs => by
        have hg9 := hgp.cls hw
        exact ⟨hg9.hst, hs, by rw [List.length_reverse], hg9.hb, ⟨fun t ht => hg9.ok.src t (List.mem_reverse.1 ht), fun t ht => hg9.ok.len t (List.mem_reverse.1 ht), fun t ht => hg9.ok.bd t (List.mem_reverse.1 ht)⟩, fun t ht => hg9.nb t (List.mem_reverse.1 ht), fun t ht => hg9.sm t (List.mem_reverse.1 ht)⟩
      have er := aln19_rev ha hu h1 h4 hv
      repeat' (first | refine d1 ?_ | refine dd ?_ | (show T _ (.ops _ (_ :: _) :: _) _ _ _; refine T_op (OpT.call rfl rfl rfl rfl rfl (fun w hw => align19_spec c Ao l.length co l.reverse w (hgr hw (srcRw w hw))) ?_)) | (show ∀ _ : Nat, T _ _ _ _ _; intro _))
      rintro v R ⟨y1, -, rfl, rfl⟩
      have e1 : (aln19 c l.reverse).2.1 = lstV c l := by rw [er]
      have e2 : (aln19 c l.reverse).2.2 = 0 := by rw [er]
      rw [e1, e2]
      refine T_le (H' := [fz p, row 40 1 Ao co l.length (l.reverse.map TS.val), blk pc c.cells 23]) (Hle.tail _ _) ?_
      obtain ⟨Ak, capk, l', ek, hnb', hm', hln', hF⟩ := hp.toksF
      injection ek with ek1 ek2 ek3
      subst ek1
      have eb := aln19_back hm' hgp.ok.len hln' hu h1 h4 hv
      have e3 : (aln19 c l').2.1 = lstV c l := by rw [eb]
      have e4 : (aln19 c l').2.2 = 0 := by rw [eb]
      have hgb : ∀ {w' : World} {H : List HA} [FocusZ H p], Cls w w' H → Grp w' Ab l.length l' := fun {w' H} _ hw => by
        have hg9 := hgp.cls hw
        obtain ⟨f1, f2⟩ := hF hw
        have hmem : ∀ t ∈ l', ∃ s ∈ l, t.l = s.l.reverse := fun t ht => by
          have h9 : t.l ∈ l'.map TS.l := List.mem_map.2 ⟨t, ht, rfl⟩
          rw [hm'] at h9
          obtain ⟨s, hs1, hs2⟩ := List.mem_map.1 h9
          exact ⟨s, hs1, hs2.symm⟩
        refine ⟨hg9.hst, by rw [ek2]; exact f1, ek2.symm, hg9.hb, f2, fun t ht => ?_, fun t ht x hx => ?_⟩
        · obtain ⟨s, hs1, hs2⟩ := hmem t ht
          have q1 := hln' t ht
          rw [hs2, List.length_reverse, hgp.ok.len s hs1] at q1
          have := hgp.nb s hs1
          omega
        · obtain ⟨s, hs1, hs2⟩ := hmem t ht
          rw [hs2] at hx
          exact hgp.sm s hs1 x (List.mem_reverse.1 hx)
      repeat' (first | refine d1 ?_ | refine dd ?_ | (show T _ (.ops _ (_ :: _) :: _) _ _ _; refine T_op (OpT.call rfl rfl rfl rfl rfl (fun w hw => align19_spec c Ab l.length capb l' w (hgb hw)) ?_)) | (show ∀ _ : Nat, T _ _ _ _ _; intro _))
      rintro v R ⟨y2, -, rfl, rfl⟩
      rw [e3, e4]
      repeat' (first | refine d1 ?_ | refine dd ?_ | (show T _ (.ops _ (_ :: _) :: _) _ _ _; first | refine T_call rfl rfl rfl rfl rfl (fun w hw => awake19_spec w (hst.cls hw)) ?_ | refine T_callC rfl rfl rfl rfl rfl rfl rfl (fun hg w hw => awake19_spec w (hst.cls hw)) ?_) | (show T _ (.run _ _ (_ :: _) _ _ :: _) _ _ _; first | refine rc rfl rfl rfl rfl rfl rfl rfl (fun w hw => awake19_spec w (hst.cls hw)) ?_ | refine rcG rfl rfl rfl rfl rfl rfl rfl rfl rfl (fun hg w hw => awake19_spec w (hst.cls hw)) ?_) | (show ∀ _ : Nat, T _ _ _ _ _; intro _) | (show T _ (.code .ret :: _) _ _ _; refine T_retV [] rfl (Hle.none _) ⟨congrArg Value.bool ?_, rfl⟩))
      simp
theorem sym_met (os : Os) (args : Array Value) : laidMetH Tryz.prog Rows.multiwaySymmetryRow.laid ((World.doorLaid Tryz.prog 400 os).forCall (fun _ _ => 0) ⟨#[], args, []⟩).memory :=
  laidMetH_of_parts3 (fuel := 8) (laidMet_of_run' 8 (by as_aux_lemma => kernel_rfl) (by as_aux_lemma => kernel_rfl)) (by as_aux_lemma => kernel_rfl) (by as_aux_lemma => kernel_rfl)
theorem sym_lifted (os : Os) (started : os.Started) (H : Type) (enc : TypeId × Value → H) :
    ReturnsInHanded {} Tryz.checked os 13 .any (fun w args => (Rows.multiwaySymmetrySpec.pre enc Tryz.prog Tryz.f13 [] false w args ∧ laidMetH Tryz.prog Rows.multiwaySymmetryRow.laid w) ∧ sizedMet enc Tryz.prog Tryz.f13 (OpenSpec.ofChange Rows.multiwaySymmetrySpec) false w args)
      (Rows.multiwaySymmetrySpec.post enc Tryz.prog Tryz.f13 false true false false) := by
  refine returnsInHanded_of_change_and (C := Tryz.checked) (X := fun w _ => laidMetH Tryz.prog Rows.multiwaySymmetryRow.laid w) (fun _ _ _ hh h => h.of_heap hh) knob started (by as_aux_lemma => kernel_rfl) Tryz.func13
    (ChangeSpec.witness_shaped (enc := enc) (C := Tryz.checked) (os := os) (X := fun w _ => laidMetH Tryz.prog Rows.multiwaySymmetryRow.laid w) false (World.doorLaid Tryz.prog 400 os) #[(⟨0, 0, 0, 0⟩ : Costs).val, .slice none 0 0] 8 rfl (World.shaped_of_RefB (by as_aux_lemma => kernel_rfl) (by as_aux_lemma => kernel_rfl)) (by as_aux_lemma => kernel_rfl) (by as_aux_lemma => kernel_rfl) (by as_aux_lemma => kernel_rfl) (sym_met os _)) ?_
  intro W base args ds gs before hval0 hW _ _ hL _
  have hval : ∀ (j : Nat) t v, Tryz.f13.params[j]? = some t → args[j]? = some v → Value.okWide Tryz.prog W .any base t v := hval0
  have hstd := std_of (show laidMetH Tryz.prog laids W from hL)
  have hW' := hW
  obtain ⟨p, q, hA0, hV, rfl, hfz, hnd⟩ := hW
  have hA : DataW.TrodAll enc Tryz.prog W 0 (fun _ => true) true Tryz.f13.params.toList args.toList ds p := hA0
  obtain ⟨v0, vs0, d0, ds0, p0, q0, e0, rfl, rfl, h0, hA⟩ := trodAll_cons hA
  obtain ⟨v1, vs1, d1, ds1, p1, q1, rfl, rfl, rfl, h1, hA⟩ := trodAll_cons hA
  obtain ⟨rfl, rfl, rfl⟩ := trodAll_nil hA
  have ea : args = #[v0, v1] := Array.ext' e0
  subst ea
  obtain ⟨c, rfl⟩ := arg_costs (hval 0 _ v0 rfl rfl) h0
  obtain ⟨l, hr_l⟩ := arg_toksL (hval 1 _ v1 rfl rfl) h1
  refine (symM_spec c v1 l W hstd hr_l).calls.mono ?_
  rintro e W' ⟨v, A, rfl, ⟨rfl, _⟩, hb, _⟩
  exact ⟨_, rfl, law_post hW' rfl rfl laidOk (by intro t ht; simp only [show Tryz.f13.params.toList = [23, 24] from rfl, List.mem_cons, List.mem_nil_iff, or_false] at ht; rcases ht with rfl | rfl <;> exact ⟨by as_aux_lemma => kernel_rfl, of_decide_eq_true (by as_aux_lemma => kernel_rfl)⟩) rfl Tryz.underlying4 hb⟩
theorem sym_j0 : Tryz.prog.inPlace 13 = Rows.multiwaySymmetryRow.inPlace := by as_aux_lemma => kernel_rfl
theorem sym_j1 : Tryz.prog.unfollowed 13 = Rows.multiwaySymmetryRow.unfollowed := by as_aux_lemma => kernel_rfl
theorem sym_j2 : Tryz.prog.recurses 13 = Rows.multiwaySymmetryRow.recurses := by as_aux_lemma => kernel_rfl
theorem sym_j3 : Tryz.prog.varsNamed 13 = Rows.multiwaySymmetryRow.named := by as_aux_lemma => kernel_rfl
theorem sym_joined : joinedFacts Tryz.prog 13 Tryz.f13 Rows.multiwaySymmetrySpec Rows.multiwaySymmetryRow = true := by
  unfold joinedFacts
  rw [sym_j0, sym_j1, sym_j2, sym_j3, io_enter, io_lifts, io_make]
  kernel_rfl
theorem sym_holds : Rows.MultiwaySymmetrySaid :=
  OpenClaim.holds_of_wide 13 Tryz.f13 rfl rfl rfl rfl rfl rfl rfl ⟨rfl, rfl, rfl, rfl, rfl⟩ rfl rfl rfl rfl rfl (by as_aux_lemma => kernel_rfl) Tryz.func13 sym_joined
    (of_decide_eq_true (by as_aux_lemma => kernel_rfl)) (by unfold Func.isWrapper; first | (rw [if_pos (by decide +kernel)]; kernel_rfl) | (rw [if_neg (by decide +kernel)]; exact ⟨rfl, rfl⟩))
    (fun os started H enc _ => sym_lifted os started H enc)
theorem sym_card : Rows.MultiwaySymmetryCardSaid :=
  Claim7.holds_tied_plain_at .later [] [.data, .data, .data, .sentinel, .sentinel] true (true, "8da3727bd41b5459b46e191c9a7204ac1b54c7258f68ddd1a33546be5efdd15c") true
    sym_holds (fun _ h => by cases h) (by as_aux_lemma => kernel_rfl) (fun _ h => by cases h) multiwaySymmetry_row_tie rfl ⟨rfl, rfl⟩ io_main rfl
    (fun f fn hf hfn => by
      obtain rfl : f = 13 := Option.some.inj ((show Tryz.prog.funcNamed "apograph/apographlaw19.MultiwaySymmetry" = some 13 by as_aux_lemma => kernel_rfl).symm.trans hf) |>.symm
      obtain rfl : fn = Tryz.f13 := (Option.some.inj (Tryz.func13.symm.trans hfn)).symm
      exact ⟨by as_aux_lemma => kernel_rfl, fun j t ht => by
        have ht' : [23, 24][j]? = some t := by rw [Tryz.params13] at ht; simpa using ht
        have hm := List.mem_of_getElem? ht'
        simp only [List.mem_cons, List.mem_nil_iff, or_false] at hm
        rcases hm with rfl | rfl <;> exact (show Tryz.prog.wantsStandIn _ = false by as_aux_lemma => kernel_rfl)⟩)
    (by as_aux_lemma => kernel_rfl)
#print axioms sym_card
end Go.Proofs.YtofikdpbagnjbaaGreatDoor
