/- The law PairwiseJoins holds for whatever costs, tokens and numbers: the tied card of its row. No condition beyond the row's own. -/
import Derived.Test.YtmcgificpaeipaaGreatDoorJ3
import Derived.Test.YtmcgificpaeipaaGreatDoorCards
import Derived.Test.YtmcgificpaeipaaGreatDoorTie
set_option linter.unusedVariables false
set_option linter.unusedSimpArgs false
namespace Go.Proofs.YtmcgificpaeipaaGreatDoor
open Go.RowKit Go.Shelf Go.ChangeShapes Go.WideShapes Go.Proofs
set_option maxRecDepth 100000
set_option maxHeartbeats 1000000

theorem joinsLaw_spec (c : Costs) (A B : Option Addr) (ca cb : Nat) (a b : List Tok) (i k : Int) (w : World) (hst : Std w) (ha : Src w 6 A a.length (a.flatMap Tok.cells)) (hna : a.length ≤ 9223372036854775807) (hca : a.length ≤ ca ∧ ca ≤ 9223372036854775807)
    (hb : Src w 6 B b.length (b.flatMap Tok.cells)) (hnb : b.length ≤ 9223372036854775807) (hcb : b.length ≤ cb ∧ cb ≤ 9223372036854775807) (hi : 0 ≤ i ∧ i ≤ 255) (hk : 0 ≤ k ∧ k ≤ 255) :
    Spec Tryz.prog 3 [c.val, .slice A a.length ca, .slice B b.length cb, .int .u8 i, .int .u8 k] w (fun v R => v = .bool true ∧ R = []) := by
  refine spec_of sg Tryz.func3 rfl rfl rfl ?_
  refine T_op (OpT.box (cs := c.cells) rfl rfl rfl rfl rfl rfl rfl (fun pc => ?_))
  repeat' (first | refine d1 ?_ | refine dd ?_ | (show T _ (.ops _ (_ :: _) :: _) _ _ _; first | refine T_call rfl rfl rfl rfl rfl (fun w hw => fine18_spec c _ 2 _ [⟨A, a.length, ca, a⟩, ⟨B, b.length, cb, b⟩] w (Src.own hw rfl) rfl (by omega) (tsOk2 (rdSrc ha w hw) hna (rdSrc hb w hw) hnb)) ?_ | refine T_callC rfl rfl rfl rfl rfl rfl rfl (fun hg w hw => fine18_spec c _ 2 _ [⟨A, a.length, ca, a⟩, ⟨B, b.length, cb, b⟩] w (Src.own hw rfl) rfl (by omega) (tsOk2 (rdSrc ha w hw) hna (rdSrc hb w hw) hnb)) ?_) | (show T _ (.run _ _ (_ :: _) _ _ :: _) _ _ _; first | refine rc rfl rfl rfl rfl rfl rfl rfl (fun w hw => fine18_spec c _ 2 _ [⟨A, a.length, ca, a⟩, ⟨B, b.length, cb, b⟩] w (Src.own hw rfl) rfl (by omega) (tsOk2 (rdSrc ha w hw) hna (rdSrc hb w hw) hnb)) ?_ | refine rcG rfl rfl rfl rfl rfl rfl rfl rfl rfl (fun hg w hw => fine18_spec c _ 2 _ [⟨A, a.length, ca, a⟩, ⟨B, b.length, cb, b⟩] w (Src.own hw rfl) rfl (by omega) (tsOk2 (rdSrc ha w hw) hna (rdSrc hb w hw) hnb)) ?_) | (show ∀ _ : Nat, T _ _ _ _ _; intro _))
  refine T_if rfl (fun h => ?_) (fun h => ?_)
  · repeat' (first | refine d1 ?_ | refine dd ?_ | (show T _ (.ops _ (_ :: _) :: _) _ _ _; first | refine T_call rfl rfl rfl rfl rfl (fun w hw => awake18_spec w (hst.cls hw)) ?_ | refine T_callC rfl rfl rfl rfl rfl rfl rfl (fun hg w hw => awake18_spec w (hst.cls hw)) ?_) | (show T _ (.run _ _ (_ :: _) _ _ :: _) _ _ _; first | refine rc rfl rfl rfl rfl rfl rfl rfl (fun w hw => awake18_spec w (hst.cls hw)) ?_ | refine rcG rfl rfl rfl rfl rfl rfl rfl rfl rfl (fun hg w hw => awake18_spec w (hst.cls hw)) ?_) | (show ∀ _ : Nat, T _ _ _ _ _; intro _) | (show T _ (.code .ret :: _) _ _ _; refine T_retV [] rfl (Hle.none _) ⟨rfl, rfl⟩))
  obtain ⟨h2, hck, hla, hlb⟩ := two_of hst ha hb (by simpa using h)
  obtain ⟨m, hm⟩ := Int.eq_ofNat_of_zero_le (Int.emod_nonneg i (show ((a.length : Int) + 1) ≠ 0 by omega))
  obtain ⟨n, hn⟩ := Int.eq_ofNat_of_zero_le (Int.emod_nonneg k (show ((b.length : Int) + 1) ≠ 0 by omega))
  have hm1 := Int.emod_lt_of_pos i (show (0 : Int) < (a.length : Int) + 1 by omega)
  have hn1 := Int.emod_lt_of_pos k (show (0 : Int) < (b.length : Int) + 1 by omega)
  have hm2 : m ≤ a.length := by omega
  have hn2 : n ≤ b.length := by omega
  refine T_le (H' := [blk pc c.cells 23]) Hle.srt ?_
  refine T_cutX 1 [11, 12] (fun _ : Unit => [(11, .int .i64 (m : Nat)), (12, .int .i64 (n : Nat))]) (fun _ => [blk pc c.cells 23]) (fun _ => True) ?_ ?_
  · repeat' (first | refine d1 ?_ | refine dd ?_ | (show ∀ _ : Nat, T _ _ _ _ _; intro _))
    exact T_meetX () trivial (hE := ⟨by rw [← hm]; rfl, by rw [← hn]; rfl, trivial⟩)
  rintro - -
  have hs1 := h2.pre m n hm2 hn2
  have hs2 := h2.sub hca.1 hcb.1 m a.length n b.length hm2 (Nat.le_refl _) hn2 (Nat.le_refl _)
  rw [List.take_length, List.take_length] at hs2
  obtain ⟨hc, ka, kb⟩ := ckV_ok hck
  have hck1 : ckV c (a.take m) (b.take n) = 0 := ckV_of hc (fun t ht => ka t (List.mem_of_mem_take ht)) (fun t ht => kb t (List.mem_of_mem_take ht))
  have hck2 : ckV c (a.drop m) (b.drop n) = 0 := ckV_of hc (fun t ht => ka t (List.mem_of_mem_drop ht)) (fun t ht => kb t (List.mem_of_mem_drop ht))
  have e0 : distV c a b = (rst (grdOf c a b) 0 0, 0) := if_pos hck
  have e1 : distV c (a.take m) (b.take n) = (rst (grdOf c (a.take m) (b.take n)) 0 0, 0) := if_pos hck1
  have e2 : distV c (a.drop m) (b.drop n) = (rst (grdOf c (a.drop m) (b.drop n)) 0 0, 0) := if_pos hck2
  have e3 : tableV c a b = (tabR a.length b.length (rst (grdOf c a b)), 0) := if_pos hck
  obtain ⟨j1, j2⟩ := joins_law c a b hm2 hn2
  have b1 := rst_bd2 (grdOf_ok hc (a.take m) (b.take n)) hs1.hn hs1.hm hs1.hnb hs1.hmb 0 0
  have b2 := rst_bd2 (grdOf_ok hc (a.drop m) (b.drop n)) hs2.hn hs2.hm hs2.hnb hs2.hmb 0 0
  repeat' (first | refine d1 ?_ | refine dd ?_ | (show T _ (.ops _ (_ :: _) :: _) _ _ _; first | refine T_call rfl rfl rfl rfl rfl (fun w hw => distancePrg_spec c A B a.length b.length ca cb a b w (h2.cls hw)) ?_ | refine T_callC rfl rfl rfl rfl rfl rfl rfl (fun hg w hw => distancePrg_spec c A B a.length b.length ca cb a b w (h2.cls hw)) ?_ | refine T_call rfl rfl rfl rfl rfl (fun w hw => distancePrg_spec c A B m n ca cb (a.take m) (b.take n) w (hs1.cls hw)) ?_ | refine T_callC rfl rfl rfl rfl rfl rfl rfl (fun hg w hw => distancePrg_spec c A B m n ca cb (a.take m) (b.take n) w (hs1.cls hw)) ?_ | refine T_call rfl rfl rfl rfl rfl (fun w hw => distancePrg_spec c (cutA A ca m 6) (cutA B cb n 6) (a.length - m) (b.length - n) (ca - m) (cb - n) (a.drop m) (b.drop n) w (hs2.cls hw)) ?_ | refine T_callC rfl rfl rfl rfl rfl rfl rfl (fun hg w hw => distancePrg_spec c (cutA A ca m 6) (cutA B cb n 6) (a.length - m) (b.length - n) (ca - m) (cb - n) (a.drop m) (b.drop n) w (hs2.cls hw)) ?_) | (show T _ (.run _ _ (_ :: _) _ _ :: _) _ _ _; first | refine rc rfl rfl rfl rfl rfl rfl rfl (fun w hw => distancePrg_spec c A B a.length b.length ca cb a b w (h2.cls hw)) ?_ | refine rcG rfl rfl rfl rfl rfl rfl rfl rfl rfl (fun hg w hw => distancePrg_spec c A B a.length b.length ca cb a b w (h2.cls hw)) ?_ | refine rc rfl rfl rfl rfl rfl rfl rfl (fun w hw => distancePrg_spec c A B m n ca cb (a.take m) (b.take n) w (hs1.cls hw)) ?_ | refine rcG rfl rfl rfl rfl rfl rfl rfl rfl rfl (fun hg w hw => distancePrg_spec c A B m n ca cb (a.take m) (b.take n) w (hs1.cls hw)) ?_ | refine rc rfl rfl rfl rfl rfl rfl rfl (fun w hw => distancePrg_spec c (cutA A ca m 6) (cutA B cb n 6) (a.length - m) (b.length - n) (ca - m) (cb - n) (a.drop m) (b.drop n) w (hs2.cls hw)) ?_ | refine rcG rfl rfl rfl rfl rfl rfl rfl rfl rfl (fun hg w hw => distancePrg_spec c (cutA A ca m 6) (cutA B cb n 6) (a.length - m) (b.length - n) (ca - m) (cb - n) (a.drop m) (b.drop n) w (hs2.cls hw)) ?_) | (show ∀ _ : Nat, T _ _ _ _ _; intro _))
  refine T_op (OpT.call rfl rfl rfl rfl rfl (fun w hw => tablePrg_spec c A B a.length b.length ca cb a b w (h2.cls hw)) ?_)
  rintro v R ⟨x, -, rfl, rfl⟩
  rw [e0, e1, e2, e3]
  refine T_le (H' := [dat [x] [rowsD (tabR a.length b.length (rst (grdOf c a b)))], blk pc c.cells 23]) (Hle.refl _) ?_
  refine T_open fun p hp => ?_
  obtain ⟨At, capt, cs, rfl, -, -, -, hA, hrows⟩ := hp.tab
  rw [tabR_length] at hA ⊢
  obtain ⟨bt, ot, rfl, hbt⟩ := hA (by omega)
  obtain ⟨Ar, capr, hcs, -, -, hA'⟩ := hrows.tabRow (tabR_get hm2)
  rw [List.length_map, List.length_range] at hcs hA'
  obtain ⟨br, orr, rfl, hb'⟩ := hA' (by omega)
  repeat' (first | refine d1 ?_ | refine dd ?_ | (show T _ (.ops _ (_ :: _) :: _) _ _ _; first | refine T_val rfl (Val.load rfl (fun hg => rdFz (p := p) (u := .slice (some ⟨br, orr, none⟩) (b.length + 1) capr) (b := bt) (by rw [off1]; exact hbt m _ hcs))) rfl rfl rfl ?_ | refine T_valC rfl (Val.load rfl (fun hg => rdFz (p := p) (u := .slice (some ⟨br, orr, none⟩) (b.length + 1) capr) (b := bt) (by rw [off1]; exact hbt m _ hcs))) rfl rfl rfl rfl rfl ?_ | refine T_val rfl (Val.load rfl (fun hg => rdFz (p := p) (u := .int .i64 (rst (grdOf c a b) m n)) (b := br) (by rw [off1]; exact hb' n _ (tabR_cell hn2)))) rfl rfl rfl ?_ | refine T_valC rfl (Val.load rfl (fun hg => rdFz (p := p) (u := .int .i64 (rst (grdOf c a b) m n)) (b := br) (by rw [off1]; exact hb' n _ (tabR_cell hn2)))) rfl rfl rfl rfl rfl ?_ | refine T_call rfl rfl rfl rfl rfl (fun w hw => awake18_spec w (hst.cls hw)) ?_ | refine T_callC rfl rfl rfl rfl rfl rfl rfl (fun hg w hw => awake18_spec w (hst.cls hw)) ?_) | (show T _ (.run _ _ (_ :: _) _ _ :: _) _ _ _; first | refine rv rfl rfl rfl (Val.load rfl (fun hg => rdFz (p := p) (u := .slice (some ⟨br, orr, none⟩) (b.length + 1) capr) (b := bt) (by rw [off1]; exact hbt m _ hcs))) rfl rfl rfl ?_ | refine rg rfl rfl rfl (Val.load rfl (fun hg => rdFz (p := p) (u := .slice (some ⟨br, orr, none⟩) (b.length + 1) capr) (b := bt) (by rw [off1]; exact hbt m _ hcs))) rfl rfl rfl rfl rfl ?_ | refine rv rfl rfl rfl (Val.load rfl (fun hg => rdFz (p := p) (u := .int .i64 (rst (grdOf c a b) m n)) (b := br) (by rw [off1]; exact hb' n _ (tabR_cell hn2)))) rfl rfl rfl ?_ | refine rg rfl rfl rfl (Val.load rfl (fun hg => rdFz (p := p) (u := .int .i64 (rst (grdOf c a b) m n)) (b := br) (by rw [off1]; exact hb' n _ (tabR_cell hn2)))) rfl rfl rfl rfl rfl ?_ | refine rc rfl rfl rfl rfl rfl rfl rfl (fun w hw => awake18_spec w (hst.cls hw)) ?_ | refine rcG rfl rfl rfl rfl rfl rfl rfl rfl rfl (fun hg w hw => awake18_spec w (hst.cls hw)) ?_) | (show ∀ _ : Nat, T _ _ _ _ _; intro _) | (show T _ (.code .ret :: _) _ _ _; refine T_retV [] rfl (Hle.none _) ⟨congrArg Value.bool ?_, rfl⟩))
  simp [j1, j2]
theorem joins_met (os : Os) (args : Array Value) : laidMetH Tryz.prog Rows.pairwiseJoinsRow.laid ((World.doorLaid Tryz.prog 400 os).forCall (fun _ _ => 0) ⟨#[], args, []⟩).memory :=
  laidMetH_of_parts3 (fuel := 8) (laidMet_of_run' 8 (by kernel_rfl) (by kernel_rfl)) (by kernel_rfl) (by kernel_rfl)
theorem joins_lifted (os : Os) (started : os.Started) (H : Type) (enc : TypeId × Value → H) :
    ReturnsInHanded {} Tryz.checked os 3 .any (fun w args => (Rows.pairwiseJoinsSpec.pre enc Tryz.prog Tryz.f3 [] false w args ∧ laidMetH Tryz.prog Rows.pairwiseJoinsRow.laid w) ∧ sizedMet enc Tryz.prog Tryz.f3 (OpenSpec.ofChange Rows.pairwiseJoinsSpec) false w args)
      (Rows.pairwiseJoinsSpec.post enc Tryz.prog Tryz.f3 false true false false) := by
  refine returnsInHanded_of_change_and (C := Tryz.checked) (X := fun w _ => laidMetH Tryz.prog Rows.pairwiseJoinsRow.laid w) (fun _ _ _ hh h => h.of_heap hh) knob started (by kernel_rfl) Tryz.func3
    (ChangeSpec.witness_shaped (enc := enc) (C := Tryz.checked) (os := os) (X := fun w _ => laidMetH Tryz.prog Rows.pairwiseJoinsRow.laid w) false (World.doorLaid Tryz.prog 400 os) #[(⟨0, 0, 0, 0⟩ : Costs).val, .slice none 0 0, .slice none 0 0, .int .u8 0, .int .u8 0] 8 rfl (World.shaped_of_RefB (by kernel_rfl) (by kernel_rfl)) (by kernel_rfl) (by kernel_rfl) (by kernel_rfl) (joins_met os _)) ?_
  intro W base args ds gs before hval0 hW _ _ hL _
  have hval : ∀ (j : Nat) t v, Tryz.f3.params[j]? = some t → args[j]? = some v → Value.okWide Tryz.prog W .any base t v := hval0
  have hstd := std_of (show laidMetH Tryz.prog laids W from hL)
  have hW' := hW
  obtain ⟨p, q, hA0, hV, rfl, hfz, hnd⟩ := hW
  have hA : DataW.TrodAll enc Tryz.prog W 0 (fun _ => true) true Tryz.f3.params.toList args.toList ds p := hA0
  obtain ⟨v0, vs0, d0, ds0, p0, q0, e0, rfl, rfl, h0, hA⟩ := trodAll_cons hA
  obtain ⟨v1, vs1, d1, ds1, p1, q1, rfl, rfl, rfl, h1, hA⟩ := trodAll_cons hA
  obtain ⟨v2, vs2, d2, ds2, p2, q2, rfl, rfl, rfl, h2, hA⟩ := trodAll_cons hA
  obtain ⟨v3, vs3, d3, ds3, p3, q3, rfl, rfl, rfl, h3, hA⟩ := trodAll_cons hA
  obtain ⟨v4, vs4, d4, ds4, p4, q4, rfl, rfl, rfl, h4, hA⟩ := trodAll_cons hA
  obtain ⟨rfl, rfl, rfl⟩ := trodAll_nil hA
  have ea : args = #[v0, v1, v2, v3, v4] := Array.ext' e0
  subst ea
  obtain ⟨c, rfl⟩ := arg_costs (hval 0 _ v0 rfl rfl) h0
  obtain ⟨A_a, cap_a, a, rfl, hb_a, hs_a, hc_a⟩ := arg_toksC (hval 1 _ v1 rfl rfl) h1
  obtain ⟨A_b, cap_b, b, rfl, hb_b, hs_b, hc_b⟩ := arg_toksC (hval 2 _ v2 rfl rfl) h2
  obtain ⟨i, rfl, hb_i⟩ := arg_u8 (hval 3 _ v3 rfl rfl) h3
  obtain ⟨k, rfl, hb_k⟩ := arg_u8 (hval 4 _ v4 rfl rfl) h4
  refine (joinsLaw_spec c A_a A_b cap_a cap_b a b i k W hstd hs_a hb_a hc_a hs_b hb_b hc_b hb_i hb_k).calls.mono ?_
  rintro e W' ⟨v, A, rfl, ⟨rfl, _⟩, hb, _⟩
  exact ⟨_, rfl, law_post hW' rfl rfl laidOk (by intro t ht; simp only [show Tryz.f3.params.toList = [23, 24, 24, 5, 5] from rfl, List.mem_cons, List.mem_nil_iff, or_false] at ht; rcases ht with rfl | rfl | rfl | rfl | rfl <;> exact ⟨by kernel_rfl, of_decide_eq_true (by kernel_rfl)⟩) rfl Tryz.underlying4 hb⟩
theorem joins_holds : Rows.PairwiseJoinsSaid :=
  OpenClaim.holds_of_wide 3 Tryz.f3 rfl rfl rfl rfl rfl rfl rfl ⟨rfl, rfl, rfl, rfl, rfl⟩ rfl rfl rfl rfl rfl (by kernel_rfl) Tryz.func3 (by kernel_rfl)
    (of_decide_eq_true (by kernel_rfl)) (by unfold Func.isWrapper; first | (rw [if_pos (by decide +kernel)]; kernel_rfl) | (rw [if_neg (by decide +kernel)]; exact ⟨rfl, rfl⟩))
    (fun os started H enc _ => joins_lifted os started H enc)
theorem joins_card : Rows.PairwiseJoinsCardSaid :=
  Claim7.holds_tied_plain_at .later [] [.data, .data, .data, .sentinel, .sentinel] true (true, "eeeb7ba5f59194c4fb892d9bd69c6f4887df1c3fcf5c3cbcdfbc4827380e6da7") true
    joins_holds (fun _ h => by cases h) (by kernel_rfl) (fun _ h => by cases h) pairwiseJoins_row_tie rfl ⟨rfl, rfl⟩ (by kernel_rfl) rfl
    (fun f fn hf hfn => by
      obtain rfl : f = 3 := Option.some.inj ((show Tryz.prog.funcNamed "apograph/apographlaw18.PairwiseJoins" = some 3 by kernel_rfl).symm.trans hf) |>.symm
      obtain rfl : fn = Tryz.f3 := (Option.some.inj (Tryz.func3.symm.trans hfn)).symm
      exact ⟨by kernel_rfl, fun j t ht => by
        have ht' : [23, 24, 24, 5, 5][j]? = some t := by rw [Tryz.params3] at ht; simpa using ht
        have hm := List.mem_of_getElem? ht'
        simp only [List.mem_cons, List.mem_nil_iff, or_false] at hm
        rcases hm with rfl | rfl | rfl | rfl | rfl <;> exact (show Tryz.prog.wantsStandIn _ = false by kernel_rfl)⟩)
    (by kernel_rfl)
#print axioms joins_card
end Go.Proofs.YtmcgificpaeipaaGreatDoor
