/- The law PairwiseChecks holds for whatever cases: the tied card of its row. No condition beyond the row's own. -/
import Derived.Test.YtmcgificpaeipaaGreatDoorJ4
import Derived.Test.YtmcgificpaeipaaGreatDoorCards
import Derived.Test.YtmcgificpaeipaaGreatDoorTie
set_option linter.unusedVariables false
set_option linter.unusedSimpArgs false
namespace Go.Proofs.YtmcgificpaeipaaGreatDoor
open Go.RowKit Go.Shelf Go.ChangeShapes Go.WideShapes Go.Proofs
set_option maxRecDepth 100000
set_option maxHeartbeats 1000000

theorem checks1_spec (A' : Option Addr) (r cap' : Nat) (w : World) (hr : r ≤ 9223372036854775807) :
    Spec Tryz.prog 31 [.slice A' r cap'] w (fun v R => v = .bool (decide ((10 : Int) < r)) ∧ R = []) := by
  refine spec_of sg Tryz.func31 rfl rfl rfl ?_
  repeat' (first | refine d1 ?_ | refine dd ?_ | (show ∀ _ : Nat, T _ _ _ _ _; intro _) | (show T _ (.code .ret :: _) _ _ _; refine T_retV [] rfl (Hle.none _) ⟨rfl, rfl⟩))
theorem checks1_row {R : Rdr} {cs : List Value} {t : List (List Int)} {i : Nat} {x : Value} {w : World} (h : Rd R cs (t.map intsD)) (hx : cs[i]? = some x) :
    Spec Tryz.prog 31 [x] w (fun v R => v = .bool (decide ((10 : Int) < ((t[i]?).getD []).length)) ∧ R = []) := by
  obtain ⟨r, A', cap', h5, rfl, h6⟩ := h.rowAt hx
  rw [h5]
  exact checks1_spec A' r.length cap' w h6
theorem checksLaw_spec (c : Costs) (A B : Option Addr) (ca cb : Nat) (a b : List Tok) (z y : Value) (cols t : List (List Int)) (w : World) (hst : Std w) (ha : Src w 6 A a.length (a.flatMap Tok.cells)) (hna : a.length ≤ 9223372036854775807)
    (hb : Src w 6 B b.length (b.flatMap Tok.cells)) (hnb : b.length ≤ 9223372036854775807) (hz : Rd (wr w) [z] [rowsD cols]) (hy : Rd (wr w) [y] [rowsD t]) :
    Spec Tryz.prog 8 [.agg (caseL c A B a.length b.length ca cb z y).toArray] w (fun v R => v = .bool true ∧ R = []) := by
  obtain ⟨Az, capz, csz, rfl, -, hcz, -, -⟩ := hz.tabS
  obtain ⟨Ay, capy, csy, rfl, hly, hcy, hsy, hry⟩ := hy.tabS
  refine spec_of sg Tryz.func8 rfl rfl rfl ?_
  refine T_op (OpT.box (cs := caseL c A B a.length b.length ca cb (.slice Az cols.length capz) (.slice Ay t.length capy)) rfl rfl rfl rfl rfl rfl rfl (fun pc => ?_))
  repeat' (first | refine d1 ?_ | refine dd ?_ | (show T _ (.ops _ (_ :: _) :: _) _ _ _; first | refine T_call rfl rfl rfl rfl rfl (fun w hw => great18L_spec _ 2 _ [⟨A, a.length, ca, a⟩, ⟨B, b.length, cb, b⟩] w (Src.own hw rfl) rfl (by omega) (tsOk2 (rdSrc ha w hw) hna (rdSrc hb w hw) hnb)) ?_ | refine T_callC rfl rfl rfl rfl rfl rfl rfl (fun hg w hw => great18L_spec _ 2 _ [⟨A, a.length, ca, a⟩, ⟨B, b.length, cb, b⟩] w (Src.own hw rfl) rfl (by omega) (tsOk2 (rdSrc ha w hw) hna (rdSrc hb w hw) hnb)) ?_ | refine T_call rfl rfl rfl rfl rfl (fun w hw => containsFuncR_spec Ay t.length capy csy _ [] [] (fun i => decide ((10 : Int) < ((t[i]?).getD []).length)) w (rdSrc hsy w hw) (by omega) (fun i x hx w' hb' => checks1_row hry hx)) ?_ | refine T_callC rfl rfl rfl rfl rfl rfl rfl (fun hg w hw => containsFuncR_spec Ay t.length capy csy _ [] [] (fun i => decide ((10 : Int) < ((t[i]?).getD []).length)) w (rdSrc hsy w hw) (by omega) (fun i x hx w' hb' => checks1_row hry hx)) ?_) | (show T _ (.run _ _ (_ :: _) _ _ :: _) _ _ _; first | refine rc rfl rfl rfl rfl rfl rfl rfl (fun w hw => great18L_spec _ 2 _ [⟨A, a.length, ca, a⟩, ⟨B, b.length, cb, b⟩] w (Src.own hw rfl) rfl (by omega) (tsOk2 (rdSrc ha w hw) hna (rdSrc hb w hw) hnb)) ?_ | refine rcG rfl rfl rfl rfl rfl rfl rfl rfl rfl (fun hg w hw => great18L_spec _ 2 _ [⟨A, a.length, ca, a⟩, ⟨B, b.length, cb, b⟩] w (Src.own hw rfl) rfl (by omega) (tsOk2 (rdSrc ha w hw) hna (rdSrc hb w hw) hnb)) ?_ | refine rc rfl rfl rfl rfl rfl rfl rfl (fun w hw => containsFuncR_spec Ay t.length capy csy _ [] [] (fun i => decide ((10 : Int) < ((t[i]?).getD []).length)) w (rdSrc hsy w hw) (by omega) (fun i x hx w' hb' => checks1_row hry hx)) ?_ | refine rcG rfl rfl rfl rfl rfl rfl rfl rfl rfl (fun hg w hw => containsFuncR_spec Ay t.length capy csy _ [] [] (fun i => decide ((10 : Int) < ((t[i]?).getD []).length)) w (rdSrc hsy w hw) (by omega) (fun i x hx w' hb' => checks1_row hry hx)) ?_) | (show ∀ _ : Nat, T _ _ _ _ _; intro _))
  refine T_if rfl (fun h => ?_) (fun h => ?_)
  · repeat' (first | refine d1 ?_ | refine dd ?_ | (show T _ (.ops _ (_ :: _) :: _) _ _ _; first | refine T_call rfl rfl rfl rfl rfl (fun w hw => awake18_spec w (hst.cls hw)) ?_ | refine T_callC rfl rfl rfl rfl rfl rfl rfl (fun hg w hw => awake18_spec w (hst.cls hw)) ?_) | (show T _ (.run _ _ (_ :: _) _ _ :: _) _ _ _; first | refine rc rfl rfl rfl rfl rfl rfl rfl (fun w hw => awake18_spec w (hst.cls hw)) ?_ | refine rcG rfl rfl rfl rfl rfl rfl rfl rfl rfl (fun hg w hw => awake18_spec w (hst.cls hw)) ?_) | (show ∀ _ : Nat, T _ _ _ _ _; intro _) | (show T _ (.code .ret :: _) _ _ _; refine T_retV [] rfl (Hle.none _) ⟨rfl, rfl⟩))
  simp only [Bool.or_eq_false_iff] at h
  have h2 := two_great hst ha hb h.1.1.1
  repeat' (first | refine d1 ?_ | refine dd ?_ | (show T _ (.ops _ (_ :: _) :: _) _ _ _; first | refine T_val rfl (Val.loadA (vs := c.cells) rfl (fun _ => rdOwn (fun j u hu => by rcases j with _ | _ | _ | _ | j <;> first | exact hu | (simp at hu))) rfl) rfl rfl rfl ?_ | refine T_valC rfl (Val.loadA (vs := c.cells) rfl (fun _ => rdOwn (fun j u hu => by rcases j with _ | _ | _ | _ | j <;> first | exact hu | (simp at hu))) rfl) rfl rfl rfl rfl rfl ?_ | refine T_call rfl rfl rfl rfl rfl (fun w hw => costTop18_spec c A B a.length b.length ca cb a b _ cols w (h2.cls hw) (hz.old hw)) ?_ | refine T_callC rfl rfl rfl rfl rfl rfl rfl (fun hg w hw => costTop18_spec c A B a.length b.length ca cb a b _ cols w (h2.cls hw) (hz.old hw)) ?_ | refine T_call rfl rfl rfl rfl rfl (fun w hw => costRef18_spec c A B a.length b.length ca cb a b _ cols w (h2.cls hw) (hz.old hw)) ?_ | refine T_callC rfl rfl rfl rfl rfl rfl rfl (fun hg w hw => costRef18_spec c A B a.length b.length ca cb a b _ cols w (h2.cls hw) (hz.old hw)) ?_ | refine T_call rfl rfl rfl rfl rfl (fun w hw => matches18_spec A B a.length b.length ca cb a b _ cols w (h2.cls hw) (hz.old hw)) ?_ | refine T_callC rfl rfl rfl rfl rfl rfl rfl (fun hg w hw => matches18_spec A B a.length b.length ca cb a b _ cols w (h2.cls hw) (hz.old hw)) ?_ | refine T_call rfl rfl rfl rfl rfl (fun w hw => matchesRef18_spec A B a.length b.length ca cb a b _ cols w (h2.cls hw) (hz.old hw)) ?_ | refine T_callC rfl rfl rfl rfl rfl rfl rfl (fun hg w hw => matchesRef18_spec A B a.length b.length ca cb a b _ cols w (h2.cls hw) (hz.old hw)) ?_ | refine T_call rfl rfl rfl rfl rfl (fun w hw => verifyPrg_spec c A B a.length b.length ca cb a b _ _ cols t w (h2.cls hw) (hz.old hw) (hy.old hw)) ?_ | refine T_callC rfl rfl rfl rfl rfl rfl rfl (fun hg w hw => verifyPrg_spec c A B a.length b.length ca cb a b _ _ cols t w (h2.cls hw) (hz.old hw) (hy.old hw)) ?_ | refine T_call rfl rfl rfl rfl rfl (fun w hw => verifyRef18_spec c A B a.length b.length ca cb a b _ _ cols t w (h2.cls hw) (hz.old hw) (hy.old hw)) ?_ | refine T_callC rfl rfl rfl rfl rfl rfl rfl (fun hg w hw => verifyRef18_spec c A B a.length b.length ca cb a b _ _ cols t w (h2.cls hw) (hz.old hw) (hy.old hw)) ?_ | refine T_call rfl rfl rfl rfl rfl (fun w hw => awake18_spec w (hst.cls hw)) ?_ | refine T_callC rfl rfl rfl rfl rfl rfl rfl (fun hg w hw => awake18_spec w (hst.cls hw)) ?_) | (show T _ (.run _ _ (_ :: _) _ _ :: _) _ _ _; first | refine rv rfl rfl rfl (Val.loadA (vs := c.cells) rfl (fun _ => rdOwn (fun j u hu => by rcases j with _ | _ | _ | _ | j <;> first | exact hu | (simp at hu))) rfl) rfl rfl rfl ?_ | refine rg rfl rfl rfl (Val.loadA (vs := c.cells) rfl (fun _ => rdOwn (fun j u hu => by rcases j with _ | _ | _ | _ | j <;> first | exact hu | (simp at hu))) rfl) rfl rfl rfl rfl rfl ?_ | refine rc rfl rfl rfl rfl rfl rfl rfl (fun w hw => costTop18_spec c A B a.length b.length ca cb a b _ cols w (h2.cls hw) (hz.old hw)) ?_ | refine rcG rfl rfl rfl rfl rfl rfl rfl rfl rfl (fun hg w hw => costTop18_spec c A B a.length b.length ca cb a b _ cols w (h2.cls hw) (hz.old hw)) ?_ | refine rc rfl rfl rfl rfl rfl rfl rfl (fun w hw => costRef18_spec c A B a.length b.length ca cb a b _ cols w (h2.cls hw) (hz.old hw)) ?_ | refine rcG rfl rfl rfl rfl rfl rfl rfl rfl rfl (fun hg w hw => costRef18_spec c A B a.length b.length ca cb a b _ cols w (h2.cls hw) (hz.old hw)) ?_ | refine rc rfl rfl rfl rfl rfl rfl rfl (fun w hw => matches18_spec A B a.length b.length ca cb a b _ cols w (h2.cls hw) (hz.old hw)) ?_ | refine rcG rfl rfl rfl rfl rfl rfl rfl rfl rfl (fun hg w hw => matches18_spec A B a.length b.length ca cb a b _ cols w (h2.cls hw) (hz.old hw)) ?_ | refine rc rfl rfl rfl rfl rfl rfl rfl (fun w hw => matchesRef18_spec A B a.length b.length ca cb a b _ cols w (h2.cls hw) (hz.old hw)) ?_ | refine rcG rfl rfl rfl rfl rfl rfl rfl rfl rfl (fun hg w hw => matchesRef18_spec A B a.length b.length ca cb a b _ cols w (h2.cls hw) (hz.old hw)) ?_ | refine rc rfl rfl rfl rfl rfl rfl rfl (fun w hw => verifyPrg_spec c A B a.length b.length ca cb a b _ _ cols t w (h2.cls hw) (hz.old hw) (hy.old hw)) ?_ | refine rcG rfl rfl rfl rfl rfl rfl rfl rfl rfl (fun hg w hw => verifyPrg_spec c A B a.length b.length ca cb a b _ _ cols t w (h2.cls hw) (hz.old hw) (hy.old hw)) ?_ | refine rc rfl rfl rfl rfl rfl rfl rfl (fun w hw => verifyRef18_spec c A B a.length b.length ca cb a b _ _ cols t w (h2.cls hw) (hz.old hw) (hy.old hw)) ?_ | refine rcG rfl rfl rfl rfl rfl rfl rfl rfl rfl (fun hg w hw => verifyRef18_spec c A B a.length b.length ca cb a b _ _ cols t w (h2.cls hw) (hz.old hw) (hy.old hw)) ?_ | refine rc rfl rfl rfl rfl rfl rfl rfl (fun w hw => awake18_spec w (hst.cls hw)) ?_ | refine rcG rfl rfl rfl rfl rfl rfl rfl rfl rfl (fun hg w hw => awake18_spec w (hst.cls hw)) ?_) | (show ∀ _ : Nat, T _ _ _ _ _; intro _) | (show T _ (.code .ret :: _) _ _ _; refine T_retV [] rfl (Hle.none _) ⟨congrArg Value.bool ?_, rfl⟩))
  simp
theorem checks_met (os : Os) (args : Array Value) : laidMetH Tryz.prog Rows.pairwiseChecksRow.laid ((World.doorLaid Tryz.prog 400 os).forCall (fun _ _ => 0) ⟨#[], args, []⟩).memory :=
  laidMetH_of_parts3 (fuel := 8) (laidMet_of_run' 8 (by kernel_rfl) (by kernel_rfl)) (by kernel_rfl) (by kernel_rfl)
theorem checks_lifted (os : Os) (started : os.Started) (H : Type) (enc : TypeId × Value → H) :
    ReturnsInHanded {} Tryz.checked os 8 .any (fun w args => (Rows.pairwiseChecksSpec.pre enc Tryz.prog Tryz.f8 [] false w args ∧ laidMetH Tryz.prog Rows.pairwiseChecksRow.laid w) ∧ sizedMet enc Tryz.prog Tryz.f8 (OpenSpec.ofChange Rows.pairwiseChecksSpec) false w args)
      (Rows.pairwiseChecksSpec.post enc Tryz.prog Tryz.f8 false true false false) := by
  refine returnsInHanded_of_change_and (C := Tryz.checked) (X := fun w _ => laidMetH Tryz.prog Rows.pairwiseChecksRow.laid w) (fun _ _ _ hh h => h.of_heap hh) knob started (by kernel_rfl) Tryz.func8
    (ChangeSpec.witness_shaped (enc := enc) (C := Tryz.checked) (os := os) (X := fun w _ => laidMetH Tryz.prog Rows.pairwiseChecksRow.laid w) false (World.doorLaid Tryz.prog 400 os) #[(.agg #[.int .i64 0, .int .i64 0, .int .i64 0, .int .i64 0, .slice none 0 0, .slice none 0 0, .slice none 0 0, .slice none 0 0])] 8 rfl (World.shaped_of_RefB (by kernel_rfl) (by kernel_rfl)) (by kernel_rfl) (by kernel_rfl) (by kernel_rfl) (checks_met os _)) ?_
  intro W base args ds gs before hval0 hW _ _ hL _
  have hval : ∀ (j : Nat) t v, Tryz.f8.params[j]? = some t → args[j]? = some v → Value.okWide Tryz.prog W .any base t v := hval0
  have hstd := std_of (show laidMetH Tryz.prog laids W from hL)
  have hW' := hW
  obtain ⟨p, q, hA0, hV, rfl, hfz, hnd⟩ := hW
  have hA : DataW.TrodAll enc Tryz.prog W 0 (fun _ => true) true Tryz.f8.params.toList args.toList ds p := hA0
  obtain ⟨v0, vs0, d0, ds0, p0, q0, e0, rfl, rfl, h0, hA⟩ := trodAll_cons hA
  obtain ⟨rfl, rfl, rfl⟩ := trodAll_nil hA
  have ea : args = #[v0] := Array.ext' e0
  subst ea
  obtain ⟨c_x, A_x, B_x, ca_x, cb_x, a_x, b_x, z_x, y_x, cols_x, t_x, rfl, hsa_x, hla_x, hsb_x, hlb_x, hz_x, hy_x⟩ := arg_case18 (hval 0 _ v0 rfl rfl) h0
  refine (checksLaw_spec c_x A_x B_x ca_x cb_x a_x b_x z_x y_x cols_x t_x W hstd hsa_x hla_x hsb_x hlb_x hz_x hy_x).calls.mono ?_
  rintro e W' ⟨v, A, rfl, ⟨rfl, _⟩, hb, _⟩
  exact ⟨_, rfl, law_post hW' rfl rfl laidOk (by intro t ht; simp only [show Tryz.f8.params.toList = [56] from rfl, List.mem_cons, List.mem_nil_iff, or_false] at ht; rcases ht with rfl <;> exact ⟨by kernel_rfl, of_decide_eq_true (by kernel_rfl)⟩) rfl Tryz.underlying4 hb⟩
theorem checks_holds : Rows.PairwiseChecksSaid :=
  OpenClaim.holds_of_wide 8 Tryz.f8 rfl rfl rfl rfl rfl rfl rfl ⟨rfl, rfl, rfl, rfl, rfl⟩ rfl rfl rfl rfl rfl (by kernel_rfl) Tryz.func8 (by kernel_rfl)
    (of_decide_eq_true (by kernel_rfl)) (by unfold Func.isWrapper; first | (rw [if_pos (by decide +kernel)]; kernel_rfl) | (rw [if_neg (by decide +kernel)]; exact ⟨rfl, rfl⟩))
    (fun os started H enc _ => checks_lifted os started H enc)
theorem checks_card : Rows.PairwiseChecksCardSaid :=
  Claim7.holds_tied_plain_at .later [] [.data, .data, .data, .sentinel, .sentinel] true (true, "eeeb7ba5f59194c4fb892d9bd69c6f4887df1c3fcf5c3cbcdfbc4827380e6da7") true
    checks_holds (fun _ h => by cases h) (by kernel_rfl) (fun _ h => by cases h) pairwiseChecks_row_tie rfl ⟨rfl, rfl⟩ (by kernel_rfl) rfl
    (fun f fn hf hfn => by
      obtain rfl : f = 8 := Option.some.inj ((show Tryz.prog.funcNamed "apograph/apographlaw18.PairwiseChecks" = some 8 by kernel_rfl).symm.trans hf) |>.symm
      obtain rfl : fn = Tryz.f8 := (Option.some.inj (Tryz.func8.symm.trans hfn)).symm
      exact ⟨by kernel_rfl, fun j t ht => by
        have ht' : [56][j]? = some t := by rw [Tryz.params8] at ht; simpa using ht
        have hm := List.mem_of_getElem? ht'
        simp only [List.mem_cons, List.mem_nil_iff, or_false] at hm
        rcases hm with rfl <;> exact (show Tryz.prog.wantsStandIn _ = false by kernel_rfl)⟩)
    (by kernel_rfl)
#print axioms checks_card
end Go.Proofs.YtmcgificpaeipaaGreatDoor
