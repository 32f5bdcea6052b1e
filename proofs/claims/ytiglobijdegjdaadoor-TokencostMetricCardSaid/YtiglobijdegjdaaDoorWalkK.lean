/- Walks: what Pair, Gap, Default and Great return. -/
import Derived.Test.YtiglobijdegjdaaDoorWalkJ
namespace Go.Proofs.YtiglobijdegjdaaDoor
open Go.RowKit Go.Shelf Go.Proofs
set_option maxRecDepth 100000
set_option maxHeartbeats 1000000

/-- Some token of the list is not valid. -/
def badL (l : List Tok) : Bool := l.any fun t => !decide (tokE t = 0)
def tokErr (c : Costs) (l : List Tok) : Int := if (!decide (costE c = 0) || badL l) then 1 else 0
theorem tokErr_ok {c : Costs} {l : List Tok} (h : tokErr c l = 0) : costE c = 0 ∧ ∀ t ∈ l, tokE t = 0 := by
  unfold tokErr badL at h
  split at h
  · omega
  · rename_i hh
    simp only [Bool.or_eq_true, not_or, Bool.not_eq_true', Bool.not_eq_true, Bool.not_eq_false', Bool.not_eq_false, decide_eq_true_eq, decide_eq_false_iff_not, List.any_eq_true, Bool.not_not, not_exists, not_and, Classical.not_not] at hh
    exact ⟨by simpa using hh.1, fun t ht => by simpa using hh.2 t ht⟩
theorem check1Prg_spec (t : Tok) (hl : t.small) (w : World) (hs : Std w) : Spec Tryd.prog 42 [t.val] w (fun v A => v = .bool (!decide (tokE t = 0)) ∧ A = []) := by
  refine spec_of sg Tryd.func42 rfl rfl rfl ?_
  repeat' (first | (show T _ (.ops _ (⟨_, .box _ _, _, _, _, _⟩ :: _) :: _) _ _ _; refine T_op (OpT.box (cs := t.cells) rfl rfl rfl rfl rfl rfl rfl (fun _ => ?_))) | refine d1 ?_ | refine dd ?_ | (show T _ (.ops _ (_ :: _) :: _) _ _ _; first | refine T_call rfl rfl rfl rfl rfl (fun w hw => tokPrg_spec t hl w (hs.cls hw)) ?_ | refine T_callC rfl rfl rfl rfl rfl rfl rfl (fun hg w hw => tokPrg_spec t hl w (hs.cls hw)) ?_) | (show T _ (.run _ _ (_ :: _) _ _ :: _) _ _ _; first | refine rc rfl rfl rfl rfl rfl rfl rfl (fun w hw => tokPrg_spec t hl w (hs.cls hw)) ?_ | refine rcG rfl rfl rfl rfl rfl rfl rfl rfl rfl (fun hg w hw => tokPrg_spec t hl w (hs.cls hw)) ?_) | (show ∀ _ : Nat, T _ _ _ _ _; intro _) | (show T _ (.code .ret :: _) _ _ _; refine T_retV [] rfl (Hle.none _) ⟨rfl, rfl⟩))
theorem checkTC_spec (c : Costs) (A : Option Addr) (n cap : Nat) (l : List Tok) (w : World) (hs : Std w) (hl : Src w 6 A n (l.flatMap Tok.cells)) (hn : l.length = n) (hb : n ≤ 9223372036854775807) (hsm : ∀ t ∈ l, t.small) :
    Spec Tryd.prog 29 [c.val, .slice A n cap] w (fun v A => v = .int .i64 (tokErr c l) ∧ A = []) := by
  refine spec_of sg Tryd.func29 rfl rfl rfl ?_
  repeat' (first | (show T _ (.ops _ (⟨_, .box _ _, _, _, _, _⟩ :: _) :: _) _ _ _; refine T_op (OpT.box (cs := c.cells) rfl rfl rfl rfl rfl rfl rfl (fun _ => ?_))) | refine d1 ?_ | refine dd ?_ | (show T _ (.ops _ (_ :: _) :: _) _ _ _; first | refine T_call rfl rfl rfl rfl rfl (fun w hw => costPrg_spec c w) ?_ | refine T_callC rfl rfl rfl rfl rfl rfl rfl (fun hg w hw => costPrg_spec c w) ?_ | refine T_call rfl rfl rfl rfl rfl (fun w hw => containsFuncT_spec A n cap l _ [] [] (fun t => !decide (tokE t = 0)) w (rdSrc hl w hw) hn hb (fun x hx w' hb' => check1Prg_spec x (hsm x hx) w' ((hs.cls hw).below hb'))) ?_ | refine T_callC rfl rfl rfl rfl rfl rfl rfl (fun hg w hw => containsFuncT_spec A n cap l _ [] [] (fun t => !decide (tokE t = 0)) w (rdSrc hl w hw) hn hb (fun x hx w' hb' => check1Prg_spec x (hsm x hx) w' ((hs.cls hw).below hb'))) ?_) | (show T _ (.run _ _ (_ :: _) _ _ :: _) _ _ _; first | refine rc rfl rfl rfl rfl rfl rfl rfl (fun w hw => costPrg_spec c w) ?_ | refine rcG rfl rfl rfl rfl rfl rfl rfl rfl rfl (fun hg w hw => costPrg_spec c w) ?_ | refine rc rfl rfl rfl rfl rfl rfl rfl (fun w hw => containsFuncT_spec A n cap l _ [] [] (fun t => !decide (tokE t = 0)) w (rdSrc hl w hw) hn hb (fun x hx w' hb' => check1Prg_spec x (hsm x hx) w' ((hs.cls hw).below hb'))) ?_ | refine rcG rfl rfl rfl rfl rfl rfl rfl rfl rfl (fun hg w hw => containsFuncT_spec A n cap l _ [] [] (fun t => !decide (tokE t = 0)) w (rdSrc hl w hw) hn hb (fun x hx w' hb' => check1Prg_spec x (hsm x hx) w' ((hs.cls hw).below hb'))) ?_) | (show ∀ _ : Nat, T _ _ _ _ _; intro _))
  refine T_if rfl (fun h => ?_) (fun h => ?_)
  · repeat' (first | refine d1 ?_ | refine dd ?_ | (show ∀ _ : Nat, T _ _ _ _ _; intro _) | (show T _ (.code .ret :: _) _ _ _; refine T_retV [] rfl (Hle.none _) ⟨congrArg (Value.int .i64) ?_, rfl⟩))
    unfold tokErr badL; rw [if_pos h]
  · repeat' (first | refine d1 ?_ | refine dd ?_ | (show ∀ _ : Nat, T _ _ _ _ _; intro _) | (show T _ (.code .ret :: _) _ _ _; refine T_retV [] rfl (Hle.none _) ⟨congrArg (Value.int .i64) ?_, rfl⟩))
    unfold tokErr badL; rw [if_neg (by rw [h]; simp)]
theorem pairV_eq (c : Costs) (a b : Tok) : pairV c a b = if tokErr c [a, b] = 0 then (pairC c a b, 0) else (0, 1) := by
  unfold pairV tokErr badL
  by_cases h1 : costE c = 0 <;> by_cases h2 : tokE a = 0 <;> by_cases h3 : tokE b = 0 <;> simp [h1, h2, h3]
theorem gapV_eq (c : Costs) (a : Tok) : gapV c a = if tokErr c [a] = 0 then (gapC c a, 0) else (0, 1) := by
  unfold gapV tokErr badL
  by_cases h1 : costE c = 0 <;> by_cases h2 : tokE a = 0 <;> simp [h1, h2]
theorem tokErr_01 (c : Costs) (l : List Tok) : tokErr c l = 0 ∨ tokErr c l = 1 := by unfold tokErr; split <;> omega
theorem pairTop_spec (c : Costs) (a b : Tok) (ha : a.small) (hb : b.small) (w : World) (hs : Std w) : Spec Tryd.prog 12 [c.val, a.val, b.val] w (fun v A => v = .tuple #[.int .i64 (pairV c a b).1, .int .i64 (pairV c a b).2] ∧ A = []) := by
  refine spec_of sg Tryd.func12 rfl rfl rfl ?_
  refine T_op (OpT.box (cs := c.cells) rfl rfl rfl rfl rfl rfl rfl (fun pc => ?_))
  refine T_op (OpT.box (cs := a.cells) rfl rfl rfl rfl rfl rfl rfl (fun pa => ?_))
  refine T_op (OpT.box (cs := b.cells) rfl rfl rfl rfl rfl rfl rfl (fun pb => ?_))
  repeat' (first | refine d1 ?_ | refine dd ?_ | (show T _ (.ops _ (_ :: _) :: _) _ _ _; first | refine T_call rfl rfl rfl rfl rfl (fun w hw => checkTC_spec c _ 2 _ [a, b] w (hs.cls hw) (Src.own hw rfl) rfl (by omega) (by simp [ha, hb])) ?_ | refine T_callC rfl rfl rfl rfl rfl rfl rfl (fun hg w hw => checkTC_spec c _ 2 _ [a, b] w (hs.cls hw) (Src.own hw rfl) rfl (by omega) (by simp [ha, hb])) ?_) | (show T _ (.run _ _ (_ :: _) _ _ :: _) _ _ _; first | refine rc rfl rfl rfl rfl rfl rfl rfl (fun w hw => checkTC_spec c _ 2 _ [a, b] w (hs.cls hw) (Src.own hw rfl) rfl (by omega) (by simp [ha, hb])) ?_ | refine rcG rfl rfl rfl rfl rfl rfl rfl rfl rfl (fun hg w hw => checkTC_spec c _ 2 _ [a, b] w (hs.cls hw) (Src.own hw rfl) rfl (by omega) (by simp [ha, hb])) ?_) | (show ∀ _ : Nat, T _ _ _ _ _; intro _))
  rw [pairV_eq]
  refine T_if rfl (fun h => ?_) (fun h => ?_)
  · simp only [Bool.not_eq_true', decide_eq_false_iff_not] at h
    rw [if_neg h]
    repeat' (first | refine d1 ?_ | refine dd ?_ | (show ∀ _ : Nat, T _ _ _ _ _; intro _) | (show T _ (.code .ret :: _) _ _ _; refine T_retV [] rfl (Hle.none _) ⟨?_, rfl⟩))
    rw [(tokErr_01 c [a, b]).resolve_left h]; rfl
  · simp only [Bool.not_eq_false', decide_eq_true_eq] at h
    rw [if_pos h]
    obtain ⟨h1, h2⟩ := tokErr_ok h
    have k1 := tokE_ok (h2 a (by simp))
    have k2 := tokE_ok (h2 b (by simp))
    repeat' (first | refine d1 ?_ | refine dd ?_ | (show T _ (.ops _ (_ :: _) :: _) _ _ _; first | refine T_call rfl rfl rfl rfl rfl (fun w hw => pairPrg_spec c a b h1 k1.1 k2.1 (by omega) (by omega) w) ?_ | refine T_callC rfl rfl rfl rfl rfl rfl rfl (fun hg w hw => pairPrg_spec c a b h1 k1.1 k2.1 (by omega) (by omega) w) ?_) | (show T _ (.run _ _ (_ :: _) _ _ :: _) _ _ _; first | refine rc rfl rfl rfl rfl rfl rfl rfl (fun w hw => pairPrg_spec c a b h1 k1.1 k2.1 (by omega) (by omega) w) ?_ | refine rcG rfl rfl rfl rfl rfl rfl rfl rfl rfl (fun hg w hw => pairPrg_spec c a b h1 k1.1 k2.1 (by omega) (by omega) w) ?_) | (show ∀ _ : Nat, T _ _ _ _ _; intro _) | (show T _ (.code .ret :: _) _ _ _; refine T_retV [] rfl (Hle.none _) ⟨rfl, rfl⟩))
theorem gapTop_spec (c : Costs) (a : Tok) (ha : a.small) (w : World) (hs : Std w) : Spec Tryd.prog 14 [c.val, a.val] w (fun v A => v = .tuple #[.int .i64 (gapV c a).1, .int .i64 (gapV c a).2] ∧ A = []) := by
  refine spec_of sg Tryd.func14 rfl rfl rfl ?_
  refine T_op (OpT.box (cs := c.cells) rfl rfl rfl rfl rfl rfl rfl (fun pc => ?_))
  refine T_op (OpT.box (cs := a.cells) rfl rfl rfl rfl rfl rfl rfl (fun pa => ?_))
  repeat' (first | refine d1 ?_ | refine dd ?_ | (show T _ (.ops _ (_ :: _) :: _) _ _ _; first | refine T_call rfl rfl rfl rfl rfl (fun w hw => checkTC_spec c _ 1 _ [a] w (hs.cls hw) (Src.own hw rfl) rfl (by omega) (by simp [ha])) ?_ | refine T_callC rfl rfl rfl rfl rfl rfl rfl (fun hg w hw => checkTC_spec c _ 1 _ [a] w (hs.cls hw) (Src.own hw rfl) rfl (by omega) (by simp [ha])) ?_) | (show T _ (.run _ _ (_ :: _) _ _ :: _) _ _ _; first | refine rc rfl rfl rfl rfl rfl rfl rfl (fun w hw => checkTC_spec c _ 1 _ [a] w (hs.cls hw) (Src.own hw rfl) rfl (by omega) (by simp [ha])) ?_ | refine rcG rfl rfl rfl rfl rfl rfl rfl rfl rfl (fun hg w hw => checkTC_spec c _ 1 _ [a] w (hs.cls hw) (Src.own hw rfl) rfl (by omega) (by simp [ha])) ?_) | (show ∀ _ : Nat, T _ _ _ _ _; intro _))
  rw [gapV_eq]
  refine T_if rfl (fun h => ?_) (fun h => ?_)
  · simp only [Bool.not_eq_true', decide_eq_false_iff_not] at h
    rw [if_neg h]
    repeat' (first | refine d1 ?_ | refine dd ?_ | (show ∀ _ : Nat, T _ _ _ _ _; intro _) | (show T _ (.code .ret :: _) _ _ _; refine T_retV [] rfl (Hle.none _) ⟨?_, rfl⟩))
    rw [(tokErr_01 c [a]).resolve_left h]; rfl
  · simp only [Bool.not_eq_false', decide_eq_true_eq] at h
    rw [if_pos h]
    obtain ⟨h1, h2⟩ := tokErr_ok h
    have k0 := costE_ok h1
    have k1 := tokE_ok (h2 a (by simp))
    repeat' (first | refine d1 ?_ | refine dd ?_ | (show T _ (.ops _ (_ :: _) :: _) _ _ _; first | refine T_call rfl rfl rfl rfl rfl (fun w hw => gapPrgC_spec c a k0.1 k1.1 w) ?_ | refine T_callC rfl rfl rfl rfl rfl rfl rfl (fun hg w hw => gapPrgC_spec c a k0.1 k1.1 w) ?_) | (show T _ (.run _ _ (_ :: _) _ _ :: _) _ _ _; first | refine rc rfl rfl rfl rfl rfl rfl rfl (fun w hw => gapPrgC_spec c a k0.1 k1.1 w) ?_ | refine rcG rfl rfl rfl rfl rfl rfl rfl rfl rfl (fun hg w hw => gapPrgC_spec c a k0.1 k1.1 w) ?_) | (show ∀ _ : Nat, T _ _ _ _ _; intro _) | (show T _ (.code .ret :: _) _ _ _; refine T_retV [] rfl (Hle.none _) ⟨rfl, rfl⟩))
theorem pairTopRef_spec (c : Costs) (a b : Tok) (w : World) : Spec Tryd.prog 13 [c.val, a.val, b.val] w (fun v A => v = .tuple #[.int .i64 (pairV c a b).1, .int .i64 (pairV c a b).2] ∧ A = []) := by
  refine spec_of sg Tryd.func13 rfl rfl rfl ?_
  refine T_op (OpT.box (cs := c.cells) rfl rfl rfl rfl rfl rfl rfl (fun pc => ?_))
  refine T_op (OpT.box (cs := a.cells) rfl rfl rfl rfl rfl rfl rfl (fun pa => ?_))
  refine T_op (OpT.box (cs := b.cells) rfl rfl rfl rfl rfl rfl rfl (fun pb => ?_))
  repeat' (first | refine d1 ?_ | refine dd ?_ | (show T _ (.ops _ (_ :: _) :: _) _ _ _; first | refine T_call rfl rfl rfl rfl rfl (fun w hw => costRef_spec c w) ?_ | refine T_callC rfl rfl rfl rfl rfl rfl rfl (fun hg w hw => costRef_spec c w) ?_ | refine T_call rfl rfl rfl rfl rfl (fun w hw => tokRef_spec a w) ?_ | refine T_callC rfl rfl rfl rfl rfl rfl rfl (fun hg w hw => tokRef_spec a w) ?_ | refine T_call rfl rfl rfl rfl rfl (fun w hw => tokRef_spec b w) ?_ | refine T_callC rfl rfl rfl rfl rfl rfl rfl (fun hg w hw => tokRef_spec b w) ?_) | (show T _ (.run _ _ (_ :: _) _ _ :: _) _ _ _; first | refine rc rfl rfl rfl rfl rfl rfl rfl (fun w hw => costRef_spec c w) ?_ | refine rcG rfl rfl rfl rfl rfl rfl rfl rfl rfl (fun hg w hw => costRef_spec c w) ?_ | refine rc rfl rfl rfl rfl rfl rfl rfl (fun w hw => tokRef_spec a w) ?_ | refine rcG rfl rfl rfl rfl rfl rfl rfl rfl rfl (fun hg w hw => tokRef_spec a w) ?_ | refine rc rfl rfl rfl rfl rfl rfl rfl (fun w hw => tokRef_spec b w) ?_ | refine rcG rfl rfl rfl rfl rfl rfl rfl rfl rfl (fun hg w hw => tokRef_spec b w) ?_) | (show ∀ _ : Nat, T _ _ _ _ _; intro _))
  refine T_if rfl (fun h => ?_) (fun h => ?_)
  · repeat' (first | refine d1 ?_ | refine dd ?_ | (show ∀ _ : Nat, T _ _ _ _ _; intro _) | (show T _ (.code .ret :: _) _ _ _; refine T_retV [] rfl (Hle.none _) ⟨?_, rfl⟩))
    unfold pairV; rw [if_neg (by rintro ⟨h1, h2, h3⟩; simp [h1, h2, h3] at h)]; rfl
  · simp only [Bool.or_eq_false_iff, Bool.not_eq_false', decide_eq_true_eq] at h
    have k1 := tokE_ok h.1.2
    have k2 := tokE_ok h.2
    repeat' (first | refine d1 ?_ | refine dd ?_ | (show T _ (.ops _ (_ :: _) :: _) _ _ _; first | refine T_call rfl rfl rfl rfl rfl (fun w hw => pairRefC_spec c a b h.1.1 k1.1 k2.1 (by omega) (by omega) w) ?_ | refine T_callC rfl rfl rfl rfl rfl rfl rfl (fun hg w hw => pairRefC_spec c a b h.1.1 k1.1 k2.1 (by omega) (by omega) w) ?_) | (show T _ (.run _ _ (_ :: _) _ _ :: _) _ _ _; first | refine rc rfl rfl rfl rfl rfl rfl rfl (fun w hw => pairRefC_spec c a b h.1.1 k1.1 k2.1 (by omega) (by omega) w) ?_ | refine rcG rfl rfl rfl rfl rfl rfl rfl rfl rfl (fun hg w hw => pairRefC_spec c a b h.1.1 k1.1 k2.1 (by omega) (by omega) w) ?_) | (show ∀ _ : Nat, T _ _ _ _ _; intro _) | (show T _ (.code .ret :: _) _ _ _; refine T_retV [] rfl (Hle.none _) ⟨?_, rfl⟩))
    unfold pairV; rw [if_pos ⟨h.1.1, h.1.2, h.2⟩]; rfl
theorem gapTopRef_spec (c : Costs) (a : Tok) (w : World) : Spec Tryd.prog 15 [c.val, a.val] w (fun v A => v = .tuple #[.int .i64 (gapV c a).1, .int .i64 (gapV c a).2] ∧ A = []) := by
  refine spec_of sg Tryd.func15 rfl rfl rfl ?_
  refine T_op (OpT.box (cs := c.cells) rfl rfl rfl rfl rfl rfl rfl (fun pc => ?_))
  refine T_op (OpT.box (cs := a.cells) rfl rfl rfl rfl rfl rfl rfl (fun pa => ?_))
  repeat' (first | refine d1 ?_ | refine dd ?_ | (show T _ (.ops _ (_ :: _) :: _) _ _ _; first | refine T_call rfl rfl rfl rfl rfl (fun w hw => costRef_spec c w) ?_ | refine T_callC rfl rfl rfl rfl rfl rfl rfl (fun hg w hw => costRef_spec c w) ?_ | refine T_call rfl rfl rfl rfl rfl (fun w hw => tokRef_spec a w) ?_ | refine T_callC rfl rfl rfl rfl rfl rfl rfl (fun hg w hw => tokRef_spec a w) ?_) | (show T _ (.run _ _ (_ :: _) _ _ :: _) _ _ _; first | refine rc rfl rfl rfl rfl rfl rfl rfl (fun w hw => costRef_spec c w) ?_ | refine rcG rfl rfl rfl rfl rfl rfl rfl rfl rfl (fun hg w hw => costRef_spec c w) ?_ | refine rc rfl rfl rfl rfl rfl rfl rfl (fun w hw => tokRef_spec a w) ?_ | refine rcG rfl rfl rfl rfl rfl rfl rfl rfl rfl (fun hg w hw => tokRef_spec a w) ?_) | (show ∀ _ : Nat, T _ _ _ _ _; intro _))
  refine T_if rfl (fun h => ?_) (fun h => ?_)
  · repeat' (first | refine d1 ?_ | refine dd ?_ | (show ∀ _ : Nat, T _ _ _ _ _; intro _) | (show T _ (.code .ret :: _) _ _ _; refine T_retV [] rfl (Hle.none _) ⟨?_, rfl⟩))
    unfold gapV; rw [if_neg (by rintro ⟨h1, h2⟩; simp [h1, h2] at h)]; rfl
  · simp only [Bool.or_eq_false_iff, Bool.not_eq_false', decide_eq_true_eq] at h
    have k0 := costE_ok h.1
    have k1 := tokE_ok h.2
    repeat' (first | refine d1 ?_ | refine dd ?_ | (show T _ (.ops _ (_ :: _) :: _) _ _ _; first | refine T_call rfl rfl rfl rfl rfl (fun w hw => gapRefC_spec c a k0.1 k1.1 w) ?_ | refine T_callC rfl rfl rfl rfl rfl rfl rfl (fun hg w hw => gapRefC_spec c a k0.1 k1.1 w) ?_) | (show T _ (.run _ _ (_ :: _) _ _ :: _) _ _ _; first | refine rc rfl rfl rfl rfl rfl rfl rfl (fun w hw => gapRefC_spec c a k0.1 k1.1 w) ?_ | refine rcG rfl rfl rfl rfl rfl rfl rfl rfl rfl (fun hg w hw => gapRefC_spec c a k0.1 k1.1 w) ?_) | (show ∀ _ : Nat, T _ _ _ _ _; intro _) | (show T _ (.code .ret :: _) _ _ _; refine T_retV [] rfl (Hle.none _) ⟨?_, rfl⟩))
    unfold gapV; rw [if_pos ⟨h.1, h.2⟩]; rfl
theorem defaultPrg_spec (w : World) : Spec Tryd.prog 18 [] w (fun v A => v = defaultC.val ∧ A = []) := by
  refine spec_of sg Tryd.func18 rfl rfl rfl ?_
  repeat' (first | refine d1 ?_ | refine dd ?_ | (show ∀ _ : Nat, T _ _ _ _ _; intro _))
  rename_i b
  exact T_retM (vs := [defaultC.val]) [] ⟨⟨b, _, defaultC.cells, rfl, rfl, rfl, rfl, (fun h => by cases h), rfl, rdAll⟩, trivial⟩ (Hle.none _) ⟨rfl, rfl⟩
theorem defaultRef_spec (w : World) : Spec Tryd.prog 19 [] w (fun v A => v = defaultC.val ∧ A = []) := by
  refine spec_of sg Tryd.func19 rfl rfl rfl ?_
  repeat' (first | refine d1 ?_ | refine dd ?_ | (show ∀ _ : Nat, T _ _ _ _ _; intro _))
  rename_i b
  exact T_retM (vs := [defaultC.val]) [] ⟨⟨b, _, defaultC.cells, rfl, rfl, rfl, rfl, (fun h => by cases h), rfl, rdAll⟩, trivial⟩ (Hle.none _) ⟨rfl, rfl⟩
end Go.Proofs.YtiglobijdegjdaaDoor
