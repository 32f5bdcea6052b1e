/- Walks: what the laws of chapter 17 take for valid. -/
import Derived.Test.YtiglobijdegjdaaDoorWalkM
import Derived.Test.YtiglobijdegjdaaDoorSpecN
namespace Go.Proofs.YtiglobijdegjdaaDoor
open Go.RowKit Go.Shelf Go.Proofs
set_option maxRecDepth 100000
set_option maxHeartbeats 1000000

theorem fine1_spec (t : Tok) (w : World) : Spec Tryd.prog 37 [t.val] w (fun v A => v = .bool (!decide (tokE t = 0)) ∧ A = []) := by
  refine spec_of sg Tryd.func37 rfl rfl rfl ?_
  repeat' (first | (show T _ (.ops _ (⟨_, .box _ _, _, _, _, _⟩ :: _) :: _) _ _ _; refine T_op (OpT.box (cs := t.cells) rfl rfl rfl rfl rfl rfl rfl (fun _ => ?_))) | refine d1 ?_ | refine dd ?_ | (show T _ (.ops _ (_ :: _) :: _) _ _ _; first | refine T_call rfl rfl rfl rfl rfl (fun w hw => tokRef_spec t w) ?_ | refine T_callC rfl rfl rfl rfl rfl rfl rfl (fun hg w hw => tokRef_spec t w) ?_) | (show T _ (.run _ _ (_ :: _) _ _ :: _) _ _ _; first | refine rc rfl rfl rfl rfl rfl rfl rfl (fun w hw => tokRef_spec t w) ?_ | refine rcG rfl rfl rfl rfl rfl rfl rfl rfl rfl (fun hg w hw => tokRef_spec t w) ?_) | (show ∀ _ : Nat, T _ _ _ _ _; intro _) | (show T _ (.code .ret :: _) _ _ _; refine T_retV [] rfl (Hle.none _) ⟨rfl, rfl⟩))
noncomputable def fineB (c : Costs) (l : List Tok) : Bool := decide (costE c = 0) && decide ((l.length : Int) ≤ 8) && !greatB l && !badL l
theorem fineB_ok {c : Costs} {l : List Tok} (h : fineB c l = true) : costE c = 0 ∧ l.length ≤ 8 ∧ (∀ t ∈ l, longT t = false) ∧ ∀ t ∈ l, tokE t = 0 := by
  unfold fineB at h
  simp only [Bool.and_eq_true, decide_eq_true_eq, Bool.not_eq_true'] at h
  obtain ⟨⟨⟨h1, h2⟩, h3⟩, h4⟩ := h
  refine ⟨h1, by omega, (greatB_false h3).1, fun t ht => ?_⟩
  unfold badL at h4
  rw [List.any_eq_false] at h4
  simpa using h4 t ht
theorem fine_spec (c : Costs) (A : Option Addr) (n cap : Nat) (l : List Tok) (w : World) (hl : Src w 6 A n (l.flatMap Tok.cells)) (hn : l.length = n) (hb : n ≤ 9223372036854775807) :
    Spec Tryd.prog 20 [c.val, .slice A n cap] w (fun v A => v = .bool (fineB c l) ∧ A = []) := by
  refine spec_of sg Tryd.func20 rfl rfl rfl ?_
  repeat' (first | (show T _ (.ops _ (⟨_, .box _ _, _, _, _, _⟩ :: _) :: _) _ _ _; refine T_op (OpT.box (cs := c.cells) rfl rfl rfl rfl rfl rfl rfl (fun _ => ?_))) | refine d1 ?_ | refine dd ?_ | (show T _ (.ops _ (_ :: _) :: _) _ _ _; first | refine T_call rfl rfl rfl rfl rfl (fun w hw => costRef_spec c w) ?_ | refine T_callC rfl rfl rfl rfl rfl rfl rfl (fun hg w hw => costRef_spec c w) ?_ | refine T_call rfl rfl rfl rfl rfl (fun w hw => great17_spec A n cap l w (rdSrc hl w hw) hn hb) ?_ | refine T_callC rfl rfl rfl rfl rfl rfl rfl (fun hg w hw => great17_spec A n cap l w (rdSrc hl w hw) hn hb) ?_ | refine T_call rfl rfl rfl rfl rfl (fun w hw => containsFuncT_spec A n cap l _ [] [] (fun t => !decide (tokE t = 0)) w (rdSrc hl w hw) hn hb (fun x hx w' hb' => fine1_spec x w')) ?_ | refine T_callC rfl rfl rfl rfl rfl rfl rfl (fun hg w hw => containsFuncT_spec A n cap l _ [] [] (fun t => !decide (tokE t = 0)) w (rdSrc hl w hw) hn hb (fun x hx w' hb' => fine1_spec x w')) ?_) | (show T _ (.run _ _ (_ :: _) _ _ :: _) _ _ _; first | refine rc rfl rfl rfl rfl rfl rfl rfl (fun w hw => costRef_spec c w) ?_ | refine rcG rfl rfl rfl rfl rfl rfl rfl rfl rfl (fun hg w hw => costRef_spec c w) ?_ | refine rc rfl rfl rfl rfl rfl rfl rfl (fun w hw => great17_spec A n cap l w (rdSrc hl w hw) hn hb) ?_ | refine rcG rfl rfl rfl rfl rfl rfl rfl rfl rfl (fun hg w hw => great17_spec A n cap l w (rdSrc hl w hw) hn hb) ?_ | refine rc rfl rfl rfl rfl rfl rfl rfl (fun w hw => containsFuncT_spec A n cap l _ [] [] (fun t => !decide (tokE t = 0)) w (rdSrc hl w hw) hn hb (fun x hx w' hb' => fine1_spec x w')) ?_ | refine rcG rfl rfl rfl rfl rfl rfl rfl rfl rfl (fun hg w hw => containsFuncT_spec A n cap l _ [] [] (fun t => !decide (tokE t = 0)) w (rdSrc hl w hw) hn hb (fun x hx w' hb' => fine1_spec x w')) ?_) | (show ∀ _ : Nat, T _ _ _ _ _; intro _) | (show T _ (.code .ret :: _) _ _ _; refine T_retV [] rfl (Hle.none _) ⟨congrArg Value.bool ?_, rfl⟩))
  unfold fineB badL
  rw [hn]
end Go.Proofs.YtiglobijdegjdaaDoor
