/- The law MultiwayTwo holds for whatever costs and sources: the tied card of its row. No condition beyond the row's own. -/
import Derived.Test.YtofikdpbagnjbaaGreatDoorJ4
import Derived.Test.YtofikdpbagnjbaaGreatDoorCards
import Derived.Test.YtofikdpbagnjbaaGreatDoorTie
set_option linter.unusedVariables false
set_option linter.unusedSimpArgs false
namespace Go.Proofs.YtofikdpbagnjbaaGreatDoor
open Go.RowKit Go.Shelf Go.ChangeShapes Go.WideShapes Go.Proofs
set_option maxRecDepth 100000
set_option maxHeartbeats 1000000

theorem tsOk1 {w : World} {A : Option Addr} {ca : Nat} {a : List Tok} (ha : Src w 6 A a.length (a.flatMap Tok.cells)) (hna : a.length ≤ 9223372036854775807) : TsOk w [⟨A, a.length, ca, a⟩] :=
  ⟨List.forall_mem_cons.2 ⟨ha, fun t h => by cases h⟩, List.forall_mem_cons.2 ⟨rfl, fun t h => by cases h⟩, List.forall_mem_cons.2 ⟨hna, fun t h => by cases h⟩⟩
theorem twoM_spec (c : Costs) (A B : Option Addr) (ca cb : Nat) (a b : List Tok) (w : World) (hst : Std w) (ha : Src w 6 A a.length (a.flatMap Tok.cells)) (hna : a.length ≤ 9223372036854775807)
    (hb : Src w 6 B b.length (b.flatMap Tok.cells)) (hnb : b.length ≤ 9223372036854775807) :
    Spec Tryz.prog 18 [c.val, .slice A a.length ca, .slice B b.length cb] w (fun v R => v = .bool true ∧ R = []) := by
  refine spec_of sg Tryz.func18 rfl rfl rfl ?_
  refine T_op (OpT.box (cs := c.cells) rfl rfl rfl rfl rfl rfl rfl (fun pc => ?_))
  repeat' (first | refine d1 ?_ | refine dd ?_ | (show T _ (.ops _ (_ :: _) :: _) _ _ _; refine T_op (OpT.litW rfl rfl rfl rfl rfl rfl rfl rfl rfl rfl rfl (fun g => ?_))) | (show ∀ _ : Nat, T _ _ _ _ _; intro _))
  rename_i g
  have hln : ∀ x ∈ ([⟨A, a.length, ca, a⟩, ⟨B, b.length, cb, b⟩] : List TS), x.l.length = x.n := List.forall_mem_cons.2 ⟨rfl, List.forall_mem_cons.2 ⟨rfl, fun t h => by cases h⟩⟩
  refine T_le (H' := [blk g (([⟨A, a.length, ca, a⟩, ⟨B, b.length, cb, b⟩] : List TS).map TS.val) 40, blk pc c.cells 23]) (Hle.refl _) ?_
  repeat' (first | refine d1 ?_ | refine dd ?_ | (show T _ (.ops _ (_ :: _) :: _) _ _ _; refine T_op (OpT.call rfl rfl rfl rfl rfl (fun w hw => alignL_spec c (some ⟨g, 0, none⟩) 2 2 [⟨A, a.length, ca, a⟩, ⟨B, b.length, cb, b⟩] w (hst.cls hw) (Src.own (b := g) hw rfl) rfl (by omega) (tsOk2 (src_below ha hw.below) hna (src_below hb hw.below) hnb)) ?_)) | (show ∀ _ : Nat, T _ _ _ _ _; intro _))
  rintro v R ⟨y, cols, z, hz, rfl, rfl⟩
  refine T_le (H' := [blk pc c.cells 23]) ((Hle.tail _ _).trans (Hle.tail _ _)) ?_
  cases hB : alnB c [⟨A, a.length, ca, a⟩, ⟨B, b.length, cb, b⟩] with
  | false =>
    repeat' (first | refine d1 ?_ | refine dd ?_ | (show ∀ _ : Nat, T _ _ _ _ _; intro _))
    refine T_if rfl (fun _ => ?_) (fun h => by exfalso; simp at h)
    repeat' (first | refine d1 ?_ | refine dd ?_ | (show T _ (.ops _ (_ :: _) :: _) _ _ _; first | refine T_call rfl rfl rfl rfl rfl (fun w hw => awake19_spec w (hst.cls hw)) ?_ | refine T_callC rfl rfl rfl rfl rfl rfl rfl (fun hg w hw => awake19_spec w (hst.cls hw)) ?_) | (show T _ (.run _ _ (_ :: _) _ _ :: _) _ _ _; first | refine rc rfl rfl rfl rfl rfl rfl rfl (fun w hw => awake19_spec w (hst.cls hw)) ?_ | refine rcG rfl rfl rfl rfl rfl rfl rfl rfl rfl (fun hg w hw => awake19_spec w (hst.cls hw)) ?_) | (show ∀ _ : Nat, T _ _ _ _ _; intro _) | (show T _ (.code .ret :: _) _ _ _; refine T_retV [] rfl (Hle.none _) ⟨rfl, rfl⟩))
  | true =>
    obtain ⟨-, rfl⟩ := hz hB
    obtain ⟨hu, -, -, hq, -, -, hgr⟩ := alnB_pure hB
    have hck : ck21 c [⟨A, a.length, ca, a⟩, ⟨B, b.length, cb, b⟩] = 0 := by unfold usV at hu; rwa [if_neg (by simp)] at hu
    obtain ⟨hc, hbs⟩ := ck21_ok hck
    have hbad : badL a = false ∧ badL b = false := by
      unfold badS at hbs
      simpa using hbs
    have hb1 : a.length ≤ 20 := hq _ (.head _)
    have hb2 : b.length ≤ 20 := hq _ (.tail _ (.head _))
    have hlb : ∀ t ∈ ([⟨A, a.length, ca, a⟩, ⟨B, b.length, cb, b⟩] : List TS), t.l.length ≤ 1000 := List.forall_mem_cons.2 ⟨by show a.length ≤ 1000; omega, List.forall_mem_cons.2 ⟨by show b.length ≤ 1000; omega, fun t h => by cases h⟩⟩
    have hsm := (great19_no (tsOk2 ha hna hb hnb) hgr).2.2
    have hkv : ckV c a b = 0 := if_neg (by rw [hbad.1, hbad.2]; simp [hc])
    have ed : distV c a b = (rst (grdOf c a b) 0 0, 0) := if_pos hkv
    have e2 := lstV_two hck hln hlb
    have hu1 : usV c [⟨A, a.length, ca, a⟩] = 0 := by
      unfold usV ck21 badS
      rw [if_neg (by simp), if_pos ⟨hc, by simp [hbad.1]⟩]
    have e1 : aln19 c [⟨A, a.length, ca, a⟩] = (alnW c [⟨A, a.length, ca, a⟩], 0, 0) := by
      have hv1 : volL (lens ([⟨A, a.length, ca, a⟩] : List TS)) = (a.length + 1) * 1 := rfl
      unfold aln19
      rw [if_neg (by simpa using hu1), if_neg (by rw [hv1]; simp; omega), lstV_one hc]
    have e3 := alnW_one hc (⟨A, a.length, ca, a⟩ : TS)
    have ek : (alnW c [⟨A, a.length, ca, a⟩]).length = a.length := e3
    have hg1 : ∀ {w' : World} {b1 : Nat} {H : List HA}, Cls w w' H → Src w' 1 (some ⟨b1, 0, none⟩) 1 (([⟨A, a.length, ca, a⟩] : List TS).map TS.val) → Grp w' (some ⟨b1, 0, none⟩) 1 [⟨A, a.length, ca, a⟩] := fun hw hs =>
      ⟨hst.cls hw, hs, rfl, by omega, tsOk1 (src_below ha hw.below) hna, List.forall_mem_cons.2 ⟨by show a.length ≤ 1000; omega, fun t h => by cases h⟩, List.forall_mem_cons.2 ⟨hsm _ (.head _), fun t h => by cases h⟩⟩
    repeat' (first | refine d1 ?_ | refine dd ?_ | (show ∀ _ : Nat, T _ _ _ _ _; intro _))
    refine T_if rfl (fun h => by exfalso; simp at h) (fun _ => ?_)
    repeat' (first | refine d1 ?_ | refine dd ?_ | (show T _ (.ops _ (_ :: _) :: _) _ _ _; first | refine T_call rfl rfl rfl rfl rfl (fun w hw => distancePrg_spec c A B a.length b.length ca cb a b w ⟨hst.cls hw, rdSrc ha w hw, rfl, by omega, rdSrc hb w hw, rfl, by omega, hsm _ (.head _), hsm _ (.tail _ (.head _))⟩) ?_ | refine T_callC rfl rfl rfl rfl rfl rfl rfl (fun hg w hw => distancePrg_spec c A B a.length b.length ca cb a b w ⟨hst.cls hw, rdSrc ha w hw, rfl, by omega, rdSrc hb w hw, rfl, by omega, hsm _ (.head _), hsm _ (.tail _ (.head _))⟩) ?_ | refine T_op (OpT.litW rfl rfl rfl rfl rfl rfl rfl rfl rfl rfl rfl (fun g1 => ?_)) | refine T_op (OpT.call rfl rfl rfl rfl rfl (fun w hw => align19_spec c _ 1 1 [⟨A, a.length, ca, a⟩] w (hg1 hw (Src.own hw rfl))) ?_)) | (show T _ (.run _ _ (_ :: _) _ _ :: _) _ _ _; first | refine rc rfl rfl rfl rfl rfl rfl rfl (fun w hw => distancePrg_spec c A B a.length b.length ca cb a b w ⟨hst.cls hw, rdSrc ha w hw, rfl, by omega, rdSrc hb w hw, rfl, by omega, hsm _ (.head _), hsm _ (.tail _ (.head _))⟩) ?_ | refine rcG rfl rfl rfl rfl rfl rfl rfl rfl rfl (fun hg w hw => distancePrg_spec c A B a.length b.length ca cb a b w ⟨hst.cls hw, rdSrc ha w hw, rfl, by omega, rdSrc hb w hw, rfl, by omega, hsm _ (.head _), hsm _ (.tail _ (.head _))⟩) ?_) | (show ∀ _ : Nat, T _ _ _ _ _; intro _))
    rintro v R ⟨x1, -, rfl, rfl⟩
    rw [e1]
    refine T_le (Hle.nth 0 rfl) ?_
    refine T_open fun p hp => ?_
    obtain ⟨Ak, capk, csk, rfl, -⟩ := hp.tab
    rw [ek]
    repeat' (first | refine d1 ?_ | refine dd ?_ | (show T _ (.ops _ (_ :: _) :: _) _ _ _; first | refine T_call rfl rfl rfl rfl rfl (fun w hw => awake19_spec w (hst.cls hw)) ?_ | refine T_callC rfl rfl rfl rfl rfl rfl rfl (fun hg w hw => awake19_spec w (hst.cls hw)) ?_) | (show T _ (.run _ _ (_ :: _) _ _ :: _) _ _ _; first | refine rc rfl rfl rfl rfl rfl rfl rfl (fun w hw => awake19_spec w (hst.cls hw)) ?_ | refine rcG rfl rfl rfl rfl rfl rfl rfl rfl rfl (fun hg w hw => awake19_spec w (hst.cls hw)) ?_) | (show ∀ _ : Nat, T _ _ _ _ _; intro _) | (show T _ (.code .ret :: _) _ _ _; refine T_retV [] rfl (Hle.none _) ⟨congrArg Value.bool ?_, rfl⟩))
    rw [ed, e2]
    simp
theorem two_met (os : Os) (args : Array Value) : laidMetH Tryz.prog Rows.multiwayTwoRow.laid ((World.doorLaid Tryz.prog 400 os).forCall (fun _ _ => 0) ⟨#[], args, []⟩).memory :=
  laidMetH_of_parts3 (fuel := 8) (laidMet_of_run' 8 (by as_aux_lemma => kernel_rfl) (by as_aux_lemma => kernel_rfl)) (by as_aux_lemma => kernel_rfl) (by as_aux_lemma => kernel_rfl)
theorem two_lifted (os : Os) (started : os.Started) (H : Type) (enc : TypeId × Value → H) :
    ReturnsInHanded {} Tryz.checked os 18 .any (fun w args => (Rows.multiwayTwoSpec.pre enc Tryz.prog Tryz.f18 [] false w args ∧ laidMetH Tryz.prog Rows.multiwayTwoRow.laid w) ∧ sizedMet enc Tryz.prog Tryz.f18 (OpenSpec.ofChange Rows.multiwayTwoSpec) false w args)
      (Rows.multiwayTwoSpec.post enc Tryz.prog Tryz.f18 false true false false) := by
  refine returnsInHanded_of_change_and (C := Tryz.checked) (X := fun w _ => laidMetH Tryz.prog Rows.multiwayTwoRow.laid w) (fun _ _ _ hh h => h.of_heap hh) knob started (by as_aux_lemma => kernel_rfl) Tryz.func18
    (ChangeSpec.witness_shaped (enc := enc) (C := Tryz.checked) (os := os) (X := fun w _ => laidMetH Tryz.prog Rows.multiwayTwoRow.laid w) false (World.doorLaid Tryz.prog 400 os) #[(⟨0, 0, 0, 0⟩ : Costs).val, .slice none 0 0, .slice none 0 0] 8 rfl (World.shaped_of_RefB (by as_aux_lemma => kernel_rfl) (by as_aux_lemma => kernel_rfl)) (by as_aux_lemma => kernel_rfl) (by as_aux_lemma => kernel_rfl) (by as_aux_lemma => kernel_rfl) (two_met os _)) ?_
  intro W base args ds gs before hval0 hW _ _ hL _
  have hval : ∀ (j : Nat) t v, Tryz.f18.params[j]? = some t → args[j]? = some v → Value.okWide Tryz.prog W .any base t v := hval0
  have hstd := std_of (show laidMetH Tryz.prog laids W from hL)
  have hW' := hW
  obtain ⟨p, q, hA0, hV, rfl, hfz, hnd⟩ := hW
  have hA : DataW.TrodAll enc Tryz.prog W 0 (fun _ => true) true Tryz.f18.params.toList args.toList ds p := hA0
  obtain ⟨v0, vs0, d0, ds0, p0, q0, e0, rfl, rfl, h0, hA⟩ := trodAll_cons hA
  obtain ⟨v1, vs1, d1, ds1, p1, q1, rfl, rfl, rfl, h1, hA⟩ := trodAll_cons hA
  obtain ⟨v2, vs2, d2, ds2, p2, q2, rfl, rfl, rfl, h2, hA⟩ := trodAll_cons hA
  obtain ⟨rfl, rfl, rfl⟩ := trodAll_nil hA
  have ea : args = #[v0, v1, v2] := Array.ext' e0
  subst ea
  obtain ⟨c, rfl⟩ := arg_costs (hval 0 _ v0 rfl rfl) h0
  obtain ⟨A_a, cap_a, a, rfl, hb_a, hs_a⟩ := arg_toks (hval 1 _ v1 rfl rfl) h1
  obtain ⟨A_b, cap_b, b, rfl, hb_b, hs_b⟩ := arg_toks (hval 2 _ v2 rfl rfl) h2
  refine (twoM_spec c A_a A_b cap_a cap_b a b W hstd hs_a hb_a hs_b hb_b).calls.mono ?_
  rintro e W' ⟨v, A, rfl, ⟨rfl, _⟩, hb, _⟩
  exact ⟨_, rfl, law_post hW' rfl rfl laidOk (by intro t ht; simp only [show Tryz.f18.params.toList = [23, 40, 40] from rfl, List.mem_cons, List.mem_nil_iff, or_false] at ht; rcases ht with rfl | rfl | rfl <;> exact ⟨by as_aux_lemma => kernel_rfl, of_decide_eq_true (by as_aux_lemma => kernel_rfl)⟩) rfl Tryz.underlying4 hb⟩
theorem two_j0 : Tryz.prog.inPlace 18 = Rows.multiwayTwoRow.inPlace := by as_aux_lemma => kernel_rfl
theorem two_j1 : Tryz.prog.unfollowed 18 = Rows.multiwayTwoRow.unfollowed := by as_aux_lemma => kernel_rfl
theorem two_j2 : Tryz.prog.recurses 18 = Rows.multiwayTwoRow.recurses := by as_aux_lemma => kernel_rfl
theorem two_j3 : Tryz.prog.varsNamed 18 = Rows.multiwayTwoRow.named := by as_aux_lemma => kernel_rfl
theorem two_joined : joinedFacts Tryz.prog 18 Tryz.f18 Rows.multiwayTwoSpec Rows.multiwayTwoRow = true := by
  unfold joinedFacts
  rw [two_j0, two_j1, two_j2, two_j3, io_enter, io_lifts, io_make]
  kernel_rfl
theorem two_holds : Rows.MultiwayTwoSaid :=
  OpenClaim.holds_of_wide 18 Tryz.f18 rfl rfl rfl rfl rfl rfl rfl ⟨rfl, rfl, rfl, rfl, rfl⟩ rfl rfl rfl rfl rfl (by as_aux_lemma => kernel_rfl) Tryz.func18 two_joined
    (of_decide_eq_true (by as_aux_lemma => kernel_rfl)) (by unfold Func.isWrapper; first | (rw [if_pos (by decide +kernel)]; kernel_rfl) | (rw [if_neg (by decide +kernel)]; exact ⟨rfl, rfl⟩))
    (fun os started H enc _ => two_lifted os started H enc)
theorem two_card : Rows.MultiwayTwoCardSaid :=
  Claim7.holds_tied_plain_at .later [] [.data, .data, .data, .sentinel, .sentinel] true (true, "8da3727bd41b5459b46e191c9a7204ac1b54c7258f68ddd1a33546be5efdd15c") true
    two_holds (fun _ h => by cases h) (by as_aux_lemma => kernel_rfl) (fun _ h => by cases h) multiwayTwo_row_tie rfl ⟨rfl, rfl⟩ io_main rfl
    (fun f fn hf hfn => by
      obtain rfl : f = 18 := Option.some.inj ((show Tryz.prog.funcNamed "apograph/apographlaw19.MultiwayTwo" = some 18 by as_aux_lemma => kernel_rfl).symm.trans hf) |>.symm
      obtain rfl : fn = Tryz.f18 := (Option.some.inj (Tryz.func18.symm.trans hfn)).symm
      exact ⟨by as_aux_lemma => kernel_rfl, fun j t ht => by
        have ht' : [23, 40, 40][j]? = some t := by rw [Tryz.params18] at ht; simpa using ht
        have hm := List.mem_of_getElem? ht'
        simp only [List.mem_cons, List.mem_nil_iff, or_false] at hm
        rcases hm with rfl | rfl | rfl <;> exact (show Tryz.prog.wantsStandIn _ = false by as_aux_lemma => kernel_rfl)⟩)
    (by as_aux_lemma => kernel_rfl)
#print axioms two_card
end Go.Proofs.YtofikdpbagnjbaaGreatDoor
