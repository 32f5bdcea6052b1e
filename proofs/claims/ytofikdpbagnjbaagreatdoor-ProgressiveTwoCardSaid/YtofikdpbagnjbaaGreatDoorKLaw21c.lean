/- The law ProgressiveTwo holds for whatever costs and sources: the tied card of its row. No condition beyond the row's own. -/
import Derived.Test.YtofikdpbagnjbaaGreatDoorJ4
import Derived.Test.YtofikdpbagnjbaaGreatDoorCards
import Derived.Test.YtofikdpbagnjbaaGreatDoorTie
set_option linter.unusedVariables false
set_option linter.unusedSimpArgs false
namespace Go.Proofs.YtofikdpbagnjbaaGreatDoor
open Go.RowKit Go.Shelf Go.ChangeShapes Go.WideShapes Go.Proofs
set_option maxRecDepth 100000
set_option maxHeartbeats 1000000

theorem twoLaw_spec (c : Costs) (A B : Option Addr) (ca cb : Nat) (a b : List Tok) (w : World) (hst : Std w) (ha : Src w 6 A a.length (a.flatMap Tok.cells)) (hna : a.length ≤ 9223372036854775807)
    (hb : Src w 6 B b.length (b.flatMap Tok.cells)) (hnb : b.length ≤ 9223372036854775807) :
    Spec Tryz.prog 5 [c.val, .slice A a.length ca, .slice B b.length cb] w (fun v R => v = .bool true ∧ R = []) := by
  refine spec_of sg Tryz.func5 rfl rfl rfl ?_
  refine T_op (OpT.box (cs := c.cells) rfl rfl rfl rfl rfl rfl rfl (fun pc => ?_))
  repeat' (first | refine d1 ?_ | refine dd ?_ | (show T _ (.ops _ (_ :: _) :: _) _ _ _; first | refine T_call rfl rfl rfl rfl rfl (fun w hw => fine21_spec c _ 2 _ [⟨A, a.length, ca, a⟩, ⟨B, b.length, cb, b⟩] w (Src.own hw rfl) rfl (by omega) (tsOk2 (rdSrc ha w hw) hna (rdSrc hb w hw) hnb)) ?_ | refine T_callC rfl rfl rfl rfl rfl rfl rfl (fun hg w hw => fine21_spec c _ 2 _ [⟨A, a.length, ca, a⟩, ⟨B, b.length, cb, b⟩] w (Src.own hw rfl) rfl (by omega) (tsOk2 (rdSrc ha w hw) hna (rdSrc hb w hw) hnb)) ?_) | (show T _ (.run _ _ (_ :: _) _ _ :: _) _ _ _; first | refine rc rfl rfl rfl rfl rfl rfl rfl (fun w hw => fine21_spec c _ 2 _ [⟨A, a.length, ca, a⟩, ⟨B, b.length, cb, b⟩] w (Src.own hw rfl) rfl (by omega) (tsOk2 (rdSrc ha w hw) hna (rdSrc hb w hw) hnb)) ?_ | refine rcG rfl rfl rfl rfl rfl rfl rfl rfl rfl (fun hg w hw => fine21_spec c _ 2 _ [⟨A, a.length, ca, a⟩, ⟨B, b.length, cb, b⟩] w (Src.own hw rfl) rfl (by omega) (tsOk2 (rdSrc ha w hw) hna (rdSrc hb w hw) hnb)) ?_) | (show ∀ _ : Nat, T _ _ _ _ _; intro _))
  refine T_if rfl (fun h => ?_) (fun h => ?_)
  · repeat' (first | refine d1 ?_ | refine dd ?_ | (show T _ (.ops _ (_ :: _) :: _) _ _ _; first | refine T_call rfl rfl rfl rfl rfl (fun w hw => awake21_spec w (hst.cls hw)) ?_ | refine T_callC rfl rfl rfl rfl rfl rfl rfl (fun hg w hw => awake21_spec w (hst.cls hw)) ?_) | (show T _ (.run _ _ (_ :: _) _ _ :: _) _ _ _; first | refine rc rfl rfl rfl rfl rfl rfl rfl (fun w hw => awake21_spec w (hst.cls hw)) ?_ | refine rcG rfl rfl rfl rfl rfl rfl rfl rfl rfl (fun hg w hw => awake21_spec w (hst.cls hw)) ?_) | (show ∀ _ : Nat, T _ _ _ _ _; intro _) | (show T _ (.code .ret :: _) _ _ _; refine T_retV [] rfl (Hle.none _) ⟨rfl, rfl⟩))
  obtain ⟨hc, hgr, hbs, hck⟩ := fineV_ok (by simpa using h)
  refine T_le (H' := [blk pc c.cells 23]) Hle.srt ?_
  repeat' (first | refine d1 ?_ | refine dd ?_ | (show T _ (.ops _ (_ :: _) :: _) _ _ _; refine T_op (OpT.litW rfl rfl rfl rfl rfl rfl rfl rfl rfl rfl rfl (fun g => ?_))) | (show ∀ _ : Nat, T _ _ _ _ _; intro _))
  rename_i g
  have hln : ∀ x ∈ ([⟨A, a.length, ca, a⟩, ⟨B, b.length, cb, b⟩] : List TS), x.l.length = x.n := List.forall_mem_cons.2 ⟨rfl, List.forall_mem_cons.2 ⟨rfl, fun t h => by cases h⟩⟩
  have hG : ∀ {w' : World} {H : List HA}, Cls w w' (blk g (([⟨A, a.length, ca, a⟩, ⟨B, b.length, cb, b⟩] : List TS).map TS.val) 40 :: H) → Grp w' (some ⟨g, 0, none⟩) 2 [⟨A, a.length, ca, a⟩, ⟨B, b.length, cb, b⟩] ∧ 2 ≤ 4 ∧ ∀ t ∈ ([⟨A, a.length, ca, a⟩, ⟨B, b.length, cb, b⟩] : List TS), t.n ≤ 5 := fun hw =>
    Grp.of (hst.cls hw) (Src.own (b := g) hw rfl) rfl (tsOk2 (src_below ha hw.below) hna (src_below hb hw.below) hnb) hgr
  have hb1 : a.length ≤ 5 ∧ b.length ≤ 5 := by
    unfold great21B at hgr
    simp at hgr
    omega
  have hq' : ∀ t ∈ ([⟨A, a.length, ca, a⟩, ⟨B, b.length, cb, b⟩] : List TS), t.n ≤ 100 := List.forall_mem_cons.2 ⟨by show a.length ≤ 100; omega, List.forall_mem_cons.2 ⟨by show b.length ≤ 100; omega, fun t h => by cases h⟩⟩
  have hlb : ∀ t ∈ ([⟨A, a.length, ca, a⟩, ⟨B, b.length, cb, b⟩] : List TS), t.l.length ≤ 1000 := List.forall_mem_cons.2 ⟨by show a.length ≤ 1000; omega, List.forall_mem_cons.2 ⟨by show b.length ≤ 1000; omega, fun t h => by cases h⟩⟩
  refine T_le (H' := [blk g (([⟨A, a.length, ca, a⟩, ⟨B, b.length, cb, b⟩] : List TS).map TS.val) 40, blk pc c.cells 23]) (Hle.refl _) ?_
  have ea : alnA c [⟨A, a.length, ca, a⟩, ⟨B, b.length, cb, b⟩] = (alnP c [⟨A, a.length, ca, a⟩, ⟨B, b.length, cb, b⟩], 0) := if_pos hck
  have hok := alnP_ok hck hln hlb
  have htot := alnP_two hck hln
  have hsh := hok.short
  have hbad : badL a = false ∧ badL b = false := by
    unfold badS at hbs
    simpa using hbs
  have hkv : ckV c a b = 0 := if_neg (by rw [hbad.1, hbad.2]; simp [hc])
  have ed : distV c a b = (rst (grdOf c a b) 0 0, 0) := if_pos hkv
  repeat' (first | refine d1 ?_ | refine dd ?_ | (show T _ (.ops _ (_ :: _) :: _) _ _ _; refine T_op (OpT.call rfl rfl rfl rfl rfl (fun w hw => alignPrg21_spec c (some ⟨g, 0, none⟩) 2 2 [⟨A, a.length, ca, a⟩, ⟨B, b.length, cb, b⟩] w (hG hw).1 hq') ?_)) | (show ∀ _ : Nat, T _ _ _ _ _; intro _))
  rintro v R ⟨x, -, rfl, rfl⟩
  rw [ea]
  generalize alnP c [⟨A, a.length, ca, a⟩, ⟨B, b.length, cb, b⟩] = cols at hok htot hsh ⊢
  have hsm : cols.length ≤ 10 := by
    have : sumL (lens ([⟨A, a.length, ca, a⟩, ⟨B, b.length, cb, b⟩] : List TS)) = a.length + (b.length + 0) := rfl
    omega
  refine T_le (H' := [dat [x] [rowsD cols], blk g (([⟨A, a.length, ca, a⟩, ⟨B, b.length, cb, b⟩] : List TS).map TS.val) 40, blk pc c.cells 23]) (Hle.refl _) ?_
  refine T_open fun p hp => ?_
  refine T_le (H' := [blk g (([⟨A, a.length, ca, a⟩, ⟨B, b.length, cb, b⟩] : List TS).map TS.val) 40, fz p, blk pc c.cells 23]) Hle.srt ?_
  have hus : usV c [⟨A, a.length, ca, a⟩, ⟨B, b.length, cb, b⟩] = 0 := by unfold usV; rw [if_neg (by simp), hck]
  have hal : alV [⟨A, a.length, ca, a⟩, ⟨B, b.length, cb, b⟩] cols = 0 := by unfold alV; rw [if_neg (fun h9 => by simp at h9), if_pos (chkC_ok (by simp) hok)]
  have e1 : excV c [⟨A, a.length, ca, a⟩, ⟨B, b.length, cb, b⟩] cols = (0, 0) := by
    unfold excV
    rw [if_neg (by simpa using hck), if_neg (by simpa using hal), if_neg (by simpa using hus), htot]
    have : ssum (dstT c [⟨A, a.length, ca, a⟩, ⟨B, b.length, cb, b⟩]) 2 2 = rst (grdOf c a b) 0 0 := by
      rw [ssum_eq]
      show 0 + dstT c [⟨A, a.length, ca, a⟩, ⟨B, b.length, cb, b⟩] 0 1 = _
      rw [Int.zero_add]; rfl
    show (rst (grdOf c a b) 0 0 - ssum (dstT c [⟨A, a.length, ca, a⟩, ⟨B, b.length, cb, b⟩]) 2 2, (0 : Int)) = _
    rw [this, Int.sub_self]
  have e3 : costW c [⟨A, a.length, ca, a⟩, ⟨B, b.length, cb, b⟩] cols = (rst (grdOf c a b) 0 0, 0) := by unfold costW; rw [if_neg (by simpa using hus), if_pos (okC_true hok), htot]
  have hbe := badS_ok hbs
  repeat' (first | refine d1 ?_ | refine dd ?_ | (show T _ (.ops _ (_ :: _) :: _) _ _ _; first | refine T_call rfl rfl rfl rfl rfl (fun w hw => costSum19_spec c (some ⟨g, 0, none⟩) 2 2 [⟨A, a.length, ca, a⟩, ⟨B, b.length, cb, b⟩] x cols w (hG hw).1 (hp.own hw) (by omega)) ?_ | refine T_callC rfl rfl rfl rfl rfl rfl rfl (fun hg w hw => costSum19_spec c (some ⟨g, 0, none⟩) 2 2 [⟨A, a.length, ca, a⟩, ⟨B, b.length, cb, b⟩] x cols w (hG hw).1 (hp.own hw) (by omega)) ?_ | refine T_call rfl rfl rfl rfl rfl (fun w hw => distancePrg_spec c A B a.length b.length ca cb a b w ⟨hst.cls hw, rdSrc ha w hw, rfl, by omega, rdSrc hb w hw, rfl, by omega, fun t ht => (hG hw).1.sm _ (.head _) t ht, fun t ht => (hG hw).1.sm _ (.tail _ (.head _)) t ht⟩) ?_ | refine T_callC rfl rfl rfl rfl rfl rfl rfl (fun hg w hw => distancePrg_spec c A B a.length b.length ca cb a b w ⟨hst.cls hw, rdSrc ha w hw, rfl, by omega, rdSrc hb w hw, rfl, by omega, fun t ht => (hG hw).1.sm _ (.head _) t ht, fun t ht => (hG hw).1.sm _ (.tail _ (.head _)) t ht⟩) ?_ | refine T_call rfl rfl rfl rfl rfl (fun w hw => excess21_spec c (some ⟨g, 0, none⟩) 2 2 [⟨A, a.length, ca, a⟩, ⟨B, b.length, cb, b⟩] x cols w (hG hw).1 hq' (hp.own hw) (by omega)) ?_ | refine T_callC rfl rfl rfl rfl rfl rfl rfl (fun hg w hw => excess21_spec c (some ⟨g, 0, none⟩) 2 2 [⟨A, a.length, ca, a⟩, ⟨B, b.length, cb, b⟩] x cols w (hG hw).1 hq' (hp.own hw) (by omega)) ?_ | refine T_call rfl rfl rfl rfl rfl (fun w hw => awake21_spec w (hst.cls hw)) ?_ | refine T_callC rfl rfl rfl rfl rfl rfl rfl (fun hg w hw => awake21_spec w (hst.cls hw)) ?_) | (show T _ (.run _ _ (_ :: _) _ _ :: _) _ _ _; first | refine rc rfl rfl rfl rfl rfl rfl rfl (fun w hw => costSum19_spec c (some ⟨g, 0, none⟩) 2 2 [⟨A, a.length, ca, a⟩, ⟨B, b.length, cb, b⟩] x cols w (hG hw).1 (hp.own hw) (by omega)) ?_ | refine rcG rfl rfl rfl rfl rfl rfl rfl rfl rfl (fun hg w hw => costSum19_spec c (some ⟨g, 0, none⟩) 2 2 [⟨A, a.length, ca, a⟩, ⟨B, b.length, cb, b⟩] x cols w (hG hw).1 (hp.own hw) (by omega)) ?_ | refine rc rfl rfl rfl rfl rfl rfl rfl (fun w hw => distancePrg_spec c A B a.length b.length ca cb a b w ⟨hst.cls hw, rdSrc ha w hw, rfl, by omega, rdSrc hb w hw, rfl, by omega, fun t ht => (hG hw).1.sm _ (.head _) t ht, fun t ht => (hG hw).1.sm _ (.tail _ (.head _)) t ht⟩) ?_ | refine rcG rfl rfl rfl rfl rfl rfl rfl rfl rfl (fun hg w hw => distancePrg_spec c A B a.length b.length ca cb a b w ⟨hst.cls hw, rdSrc ha w hw, rfl, by omega, rdSrc hb w hw, rfl, by omega, fun t ht => (hG hw).1.sm _ (.head _) t ht, fun t ht => (hG hw).1.sm _ (.tail _ (.head _)) t ht⟩) ?_ | refine rc rfl rfl rfl rfl rfl rfl rfl (fun w hw => excess21_spec c (some ⟨g, 0, none⟩) 2 2 [⟨A, a.length, ca, a⟩, ⟨B, b.length, cb, b⟩] x cols w (hG hw).1 hq' (hp.own hw) (by omega)) ?_ | refine rcG rfl rfl rfl rfl rfl rfl rfl rfl rfl (fun hg w hw => excess21_spec c (some ⟨g, 0, none⟩) 2 2 [⟨A, a.length, ca, a⟩, ⟨B, b.length, cb, b⟩] x cols w (hG hw).1 hq' (hp.own hw) (by omega)) ?_ | refine rc rfl rfl rfl rfl rfl rfl rfl (fun w hw => awake21_spec w (hst.cls hw)) ?_ | refine rcG rfl rfl rfl rfl rfl rfl rfl rfl rfl (fun hg w hw => awake21_spec w (hst.cls hw)) ?_) | (show ∀ _ : Nat, T _ _ _ _ _; intro _) | (show T _ (.code .ret :: _) _ _ _; refine T_retV [] rfl (Hle.none _) ⟨congrArg Value.bool ?_, rfl⟩))
  rw [e1, e3, ed]
  simp
theorem two_met (os : Os) (args : Array Value) : laidMetH Tryz.prog Rows.progressiveTwoRow.laid ((World.doorLaid Tryz.prog 400 os).forCall (fun _ _ => 0) ⟨#[], args, []⟩).memory :=
  laidMetH_of_parts3 (fuel := 8) (laidMet_of_run' 8 (by as_aux_lemma => kernel_rfl) (by as_aux_lemma => kernel_rfl)) (by as_aux_lemma => kernel_rfl) (by as_aux_lemma => kernel_rfl)
theorem two_lifted (os : Os) (started : os.Started) (H : Type) (enc : TypeId × Value → H) :
    ReturnsInHanded {} Tryz.checked os 5 .any (fun w args => (Rows.progressiveTwoSpec.pre enc Tryz.prog Tryz.f5 [] false w args ∧ laidMetH Tryz.prog Rows.progressiveTwoRow.laid w) ∧ sizedMet enc Tryz.prog Tryz.f5 (OpenSpec.ofChange Rows.progressiveTwoSpec) false w args)
      (Rows.progressiveTwoSpec.post enc Tryz.prog Tryz.f5 false true false false) := by
  refine returnsInHanded_of_change_and (C := Tryz.checked) (X := fun w _ => laidMetH Tryz.prog Rows.progressiveTwoRow.laid w) (fun _ _ _ hh h => h.of_heap hh) knob started (by as_aux_lemma => kernel_rfl) Tryz.func5
    (ChangeSpec.witness_shaped (enc := enc) (C := Tryz.checked) (os := os) (X := fun w _ => laidMetH Tryz.prog Rows.progressiveTwoRow.laid w) false (World.doorLaid Tryz.prog 400 os) #[(⟨0, 0, 0, 0⟩ : Costs).val, .slice none 0 0, .slice none 0 0] 8 rfl (World.shaped_of_RefB (by as_aux_lemma => kernel_rfl) (by as_aux_lemma => kernel_rfl)) (by as_aux_lemma => kernel_rfl) (by as_aux_lemma => kernel_rfl) (by as_aux_lemma => kernel_rfl) (two_met os _)) ?_
  intro W base args ds gs before hval0 hW _ _ hL _
  have hval : ∀ (j : Nat) t v, Tryz.f5.params[j]? = some t → args[j]? = some v → Value.okWide Tryz.prog W .any base t v := hval0
  have hstd := std_of (show laidMetH Tryz.prog laids W from hL)
  have hW' := hW
  obtain ⟨p, q, hA0, hV, rfl, hfz, hnd⟩ := hW
  have hA : DataW.TrodAll enc Tryz.prog W 0 (fun _ => true) true Tryz.f5.params.toList args.toList ds p := hA0
  obtain ⟨v0, vs0, d0, ds0, p0, q0, e0, rfl, rfl, h0, hA⟩ := trodAll_cons hA
  obtain ⟨v1, vs1, d1, ds1, p1, q1, rfl, rfl, rfl, h1, hA⟩ := trodAll_cons hA
  obtain ⟨v2, vs2, d2, ds2, p2, q2, rfl, rfl, rfl, h2, hA⟩ := trodAll_cons hA
  obtain ⟨rfl, rfl, rfl⟩ := trodAll_nil hA
  have ea : args = #[v0, v1, v2] := Array.ext' e0
  subst ea
  obtain ⟨c, rfl⟩ := arg_costs (hval 0 _ v0 rfl rfl) h0
  obtain ⟨A_a, cap_a, a, rfl, hb_a, hs_a⟩ := arg_toks (hval 1 _ v1 rfl rfl) h1
  obtain ⟨A_b, cap_b, b, rfl, hb_b, hs_b⟩ := arg_toks (hval 2 _ v2 rfl rfl) h2
  refine (twoLaw_spec c A_a A_b cap_a cap_b a b W hstd hs_a hb_a hs_b hb_b).calls.mono ?_
  rintro e W' ⟨v, A, rfl, ⟨rfl, _⟩, hb, _⟩
  exact ⟨_, rfl, law_post hW' rfl rfl laidOk (by intro t ht; simp only [show Tryz.f5.params.toList = [23, 40, 40] from rfl, List.mem_cons, List.mem_nil_iff, or_false] at ht; rcases ht with rfl | rfl | rfl <;> exact ⟨by as_aux_lemma => kernel_rfl, of_decide_eq_true (by as_aux_lemma => kernel_rfl)⟩) rfl Tryz.underlying4 hb⟩
theorem two_j0 : Tryz.prog.inPlace 5 = Rows.progressiveTwoRow.inPlace := by as_aux_lemma => kernel_rfl
theorem two_j1 : Tryz.prog.unfollowed 5 = Rows.progressiveTwoRow.unfollowed := by as_aux_lemma => kernel_rfl
theorem two_j2 : Tryz.prog.recurses 5 = Rows.progressiveTwoRow.recurses := by as_aux_lemma => kernel_rfl
theorem two_j3 : Tryz.prog.varsNamed 5 = Rows.progressiveTwoRow.named := by as_aux_lemma => kernel_rfl
theorem two_joined : joinedFacts Tryz.prog 5 Tryz.f5 Rows.progressiveTwoSpec Rows.progressiveTwoRow = true := by
  unfold joinedFacts
  rw [two_j0, two_j1, two_j2, two_j3, io_enter, io_lifts, io_make]
  kernel_rfl
theorem two_holds : Rows.ProgressiveTwoSaid :=
  OpenClaim.holds_of_wide 5 Tryz.f5 rfl rfl rfl rfl rfl rfl rfl ⟨rfl, rfl, rfl, rfl, rfl⟩ rfl rfl rfl rfl rfl (by as_aux_lemma => kernel_rfl) Tryz.func5 two_joined
    (of_decide_eq_true (by as_aux_lemma => kernel_rfl)) (by unfold Func.isWrapper; first | (rw [if_pos (by decide +kernel)]; kernel_rfl) | (rw [if_neg (by decide +kernel)]; exact ⟨rfl, rfl⟩))
    (fun os started H enc _ => two_lifted os started H enc)
theorem two_card : Rows.ProgressiveTwoCardSaid :=
  Claim7.holds_tied_plain_at .later [] [.data, .data, .data, .sentinel, .sentinel] true (true, "8da3727bd41b5459b46e191c9a7204ac1b54c7258f68ddd1a33546be5efdd15c") true
    two_holds (fun _ h => by cases h) (by as_aux_lemma => kernel_rfl) (fun _ h => by cases h) progressiveTwo_row_tie rfl ⟨rfl, rfl⟩ (by as_aux_lemma => kernel_rfl) rfl
    (fun f fn hf hfn => by
      obtain rfl : f = 5 := Option.some.inj ((show Tryz.prog.funcNamed "apograph/apographlaw21.ProgressiveTwo" = some 5 by as_aux_lemma => kernel_rfl).symm.trans hf) |>.symm
      obtain rfl : fn = Tryz.f5 := (Option.some.inj (Tryz.func5.symm.trans hfn)).symm
      exact ⟨by as_aux_lemma => kernel_rfl, fun j t ht => by
        have ht' : [23, 40, 40][j]? = some t := by rw [Tryz.params5] at ht; simpa using ht
        have hm := List.mem_of_getElem? ht'
        simp only [List.mem_cons, List.mem_nil_iff, or_false] at hm
        rcases hm with rfl | rfl | rfl <;> exact (show Tryz.prog.wantsStandIn _ = false by as_aux_lemma => kernel_rfl)⟩)
    (by as_aux_lemma => kernel_rfl)
#print axioms two_card
end Go.Proofs.YtofikdpbagnjbaaGreatDoor
