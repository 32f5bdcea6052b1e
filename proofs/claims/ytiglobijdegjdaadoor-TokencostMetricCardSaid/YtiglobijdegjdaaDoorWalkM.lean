/- Walks: Great, the examples of chapter 17. -/
import Derived.Test.YtiglobijdegjdaaDoorWalkK
namespace Go.Proofs.YtiglobijdegjdaaDoor
open Go.RowKit Go.Shelf Go.Proofs
set_option maxRecDepth 100000
set_option maxHeartbeats 1000000

theorem great17_spec (A : Option Addr) (n cap : Nat) (l : List Tok) (w : World) (hs : Src w 6 A n (l.flatMap Tok.cells)) (hn : l.length = n) (hb : n ≤ 9223372036854775807) :
    Spec Tryd.prog 10 [.slice A n cap] w (fun v A => v = .bool (greatB l) ∧ A = []) := by
  refine spec_of sg Tryd.func10 rfl rfl rfl ?_
  repeat' (first | refine d1 ?_ | refine dd ?_ | (show ∀ _ : Nat, T _ _ _ _ _; intro _))
  refine T_loopX (fun k : Nat => [(3, .int .i64 k)]) (fun _ => []) (fun k => k ≤ n ∧ ∀ j t, j < k → l[j]? = some t → oddAt l j t = false) (fun k => n - k) 0 ⟨by omega, fun j t h => by omega⟩ ?_
  rintro k ⟨hk, hok⟩
  repeat' (first | refine d1 ?_ | refine dd ?_ | (show ∀ _ : Nat, T _ _ _ _ _; intro _))
  refine T_if rfl (fun h => ?_) (fun h => ?_)
  · simp only [decide_eq_true_eq] at h
    have hkn : k < n := by omega
    obtain ⟨b, o, rfl⟩ := hs.base (by omega)
    obtain ⟨x, hx⟩ : ∃ x, l[k]? = some x := ⟨_, List.getElem?_eq_getElem (by omega)⟩
    have hr : RdC w b (o + (k : Int).toNat * 6) x.cells := hs.getT hkn hx
    obtain ⟨y, hy⟩ : ∃ y, 8 < n → l[8]? = some y := by
      by_cases h8 : 8 < n
      · exact ⟨l[8]'(by omega), fun _ => List.getElem?_eq_getElem _⟩
      · exact ⟨x, fun h => absurd h h8⟩
    repeat' (first | refine d1 ?_ | refine dd ?_ | (show T _ (.ops _ (_ :: _) :: _) _ _ _; first | refine T_val rfl (Val.loadA (vs := y.cells) rfl (fun hg => rdOld (hs.getT (by ((simp only [List.cons_append, List.nil_append, GP, dstL, lookE, Nat.beq, cond, List.getElem?_cons_zero, List.getElem?_cons_succ, Option.bind_some, and_true, Bool.and_eq_true, Bool.or_eq_true, Bool.and_eq_false_iff, Bool.or_eq_false_iff, Bool.not_eq_true', Bool.not_eq_false', decide_eq_true_eq, decide_eq_false_iff_not] at hg); omega)) (hy (by ((simp only [List.cons_append, List.nil_append, GP, dstL, lookE, Nat.beq, cond, List.getElem?_cons_zero, List.getElem?_cons_succ, Option.bind_some, and_true, Bool.and_eq_true, Bool.or_eq_true, Bool.and_eq_false_iff, Bool.or_eq_false_iff, Bool.not_eq_true', Bool.not_eq_false', decide_eq_true_eq, decide_eq_false_iff_not] at hg); omega))))) rfl) rfl rfl rfl ?_ | refine T_valC rfl (Val.loadA (vs := y.cells) rfl (fun hg => rdOld (hs.getT (by ((simp only [List.cons_append, List.nil_append, GP, dstL, lookE, Nat.beq, cond, List.getElem?_cons_zero, List.getElem?_cons_succ, Option.bind_some, and_true, Bool.and_eq_true, Bool.or_eq_true, Bool.and_eq_false_iff, Bool.or_eq_false_iff, Bool.not_eq_true', Bool.not_eq_false', decide_eq_true_eq, decide_eq_false_iff_not] at hg); omega)) (hy (by ((simp only [List.cons_append, List.nil_append, GP, dstL, lookE, Nat.beq, cond, List.getElem?_cons_zero, List.getElem?_cons_succ, Option.bind_some, and_true, Bool.and_eq_true, Bool.or_eq_true, Bool.and_eq_false_iff, Bool.or_eq_false_iff, Bool.not_eq_true', Bool.not_eq_false', decide_eq_true_eq, decide_eq_false_iff_not] at hg); omega))))) rfl) rfl rfl rfl rfl rfl ?_ | refine T_val rfl (Val.eqS (r := decide (x = y)) rfl (fun w => eqTok x y w) Tryd.eqGuardType27) rfl rfl rfl ?_ | refine T_valC rfl (Val.eqS (r := decide (x = y)) rfl (fun w => eqTok x y w) Tryd.eqGuardType27) rfl rfl rfl rfl rfl ?_) | (show T _ (.run _ _ (_ :: _) _ _ :: _) _ _ _; first | refine rv rfl rfl rfl (Val.loadA (vs := y.cells) rfl (fun hg => rdOld (hs.getT (by ((simp only [List.cons_append, List.nil_append, GP, dstL, lookE, Nat.beq, cond, List.getElem?_cons_zero, List.getElem?_cons_succ, Option.bind_some, and_true, Bool.and_eq_true, Bool.or_eq_true, Bool.and_eq_false_iff, Bool.or_eq_false_iff, Bool.not_eq_true', Bool.not_eq_false', decide_eq_true_eq, decide_eq_false_iff_not] at hg); omega)) (hy (by ((simp only [List.cons_append, List.nil_append, GP, dstL, lookE, Nat.beq, cond, List.getElem?_cons_zero, List.getElem?_cons_succ, Option.bind_some, and_true, Bool.and_eq_true, Bool.or_eq_true, Bool.and_eq_false_iff, Bool.or_eq_false_iff, Bool.not_eq_true', Bool.not_eq_false', decide_eq_true_eq, decide_eq_false_iff_not] at hg); omega))))) rfl) rfl rfl rfl ?_ | refine rg rfl rfl rfl (Val.loadA (vs := y.cells) rfl (fun hg => rdOld (hs.getT (by ((simp only [List.cons_append, List.nil_append, GP, dstL, lookE, Nat.beq, cond, List.getElem?_cons_zero, List.getElem?_cons_succ, Option.bind_some, and_true, Bool.and_eq_true, Bool.or_eq_true, Bool.and_eq_false_iff, Bool.or_eq_false_iff, Bool.not_eq_true', Bool.not_eq_false', decide_eq_true_eq, decide_eq_false_iff_not] at hg); omega)) (hy (by ((simp only [List.cons_append, List.nil_append, GP, dstL, lookE, Nat.beq, cond, List.getElem?_cons_zero, List.getElem?_cons_succ, Option.bind_some, and_true, Bool.and_eq_true, Bool.or_eq_true, Bool.and_eq_false_iff, Bool.or_eq_false_iff, Bool.not_eq_true', Bool.not_eq_false', decide_eq_true_eq, decide_eq_false_iff_not] at hg); omega))))) rfl) rfl rfl rfl rfl rfl ?_ | refine rv rfl rfl rfl (Val.eqS (r := decide (x = y)) rfl (fun w => eqTok x y w) Tryd.eqGuardType27) rfl rfl rfl ?_ | refine rg rfl rfl rfl (Val.eqS (r := decide (x = y)) rfl (fun w => eqTok x y w) Tryd.eqGuardType27) rfl rfl rfl rfl rfl ?_) | (show ∀ _ : Nat, T _ _ _ _ _; intro _))
    have ho : oddAt l k x = (longT x || (decide ((8 : Int) < k) && !decide (x = y))) := by
      unfold oddAt
      by_cases h8 : (8 : Int) < k
      · rw [hy (by omega)]; simp
      · simp [h8]
    refine T_if rfl (fun h2 => ?_) (fun h2 => ?_)
    · repeat' (first | refine d1 ?_ | refine dd ?_ | (show ∀ _ : Nat, T _ _ _ _ _; intro _) | (show T _ (.code .ret :: _) _ _ _; refine T_retV [] rfl (Hle.none _) ⟨congrArg Value.bool (greatB_true hx (ho.trans h2)).symm, rfl⟩))
    · repeat' (first | refine d1 ?_ | refine dd ?_ | (show ∀ _ : Nat, T _ _ _ _ _; intro _))
      refine T_backX (k + 1) ⟨by omega, fun j t hj ht => ?_⟩ (by omega)
      rcases Nat.lt_or_ge j k with h3 | h3
      · exact hok j t h3 ht
      · rw [show j = k by omega, hx] at ht
        cases ht
        rw [show j = k by omega]
        exact ho.trans h2
  · simp only [decide_eq_false_iff_not] at h
    repeat' (first | refine d1 ?_ | refine dd ?_ | (show ∀ _ : Nat, T _ _ _ _ _; intro _) | (show T _ (.code .ret :: _) _ _ _; refine T_retV [] rfl (Hle.none _) ⟨congrArg Value.bool ?_, rfl⟩))
    rw [greatB_else (fun j t hj => hok j t (by have := (List.getElem?_eq_some_iff.1 hj).1; omega) hj), hn]
    rfl

/-- A token of a word. -/
def tokS (s : ByteArray) : Tok := ⟨s, s, .empty, 0, 0, .empty⟩
def str (l : List UInt8) : ByteArray := ⟨l.toArray⟩
def tDeus : Tok := ⟨str [100, 101, 117, 115], str [100, 101, 117, 115], .empty, 0, 0, .empty⟩
def tDeus2 : Tok := ⟨str [68, 101, 117, 115], str [100, 101, 117, 115], .empty, 0, 0, .empty⟩
def tDei : Tok := ⟨str [100, 101, 105], str [100, 101, 105], .empty, 0, 0, .empty⟩
def tComma : Tok := ⟨str [44], str [44], .empty, 0, 8, .empty⟩
instance (t : Tok) : Decidable t.small := inferInstanceAs (Decidable (_ ∧ _))
theorem ex1 : pairV defaultC tDeus tDeus2 = (5, 0) := by decide +kernel
theorem ex2 : pairV defaultC tDeus tDei = (40, 0) := by decide +kernel
theorem ex3 : gapV defaultC tComma = (20, 0) := by decide +kernel
theorem awake17_spec (w : World) (hs : Std w) : Spec Tryd.prog 11 [] w (fun v A => v = .bool true ∧ A = []) := by
  refine spec_of sg Tryd.func11 rfl rfl rfl ?_
  repeat' (first | refine d1 ?_ | refine dd ?_ | (show T _ (.ops _ (_ :: _) :: _) _ _ _; first | refine T_call rfl rfl rfl rfl rfl (fun w hw => defaultPrg_spec w) ?_ | refine T_callC rfl rfl rfl rfl rfl rfl rfl (fun hg w hw => defaultPrg_spec w) ?_ | refine T_call rfl rfl rfl rfl rfl (fun w hw => pairTop_spec defaultC tDeus tDeus2 (by decide) (by decide) w (hs.cls hw)) ?_ | refine T_callC rfl rfl rfl rfl rfl rfl rfl (fun hg w hw => pairTop_spec defaultC tDeus tDeus2 (by decide) (by decide) w (hs.cls hw)) ?_ | refine T_call rfl rfl rfl rfl rfl (fun w hw => pairTop_spec defaultC tDeus tDei (by decide) (by decide) w (hs.cls hw)) ?_ | refine T_callC rfl rfl rfl rfl rfl rfl rfl (fun hg w hw => pairTop_spec defaultC tDeus tDei (by decide) (by decide) w (hs.cls hw)) ?_ | refine T_call rfl rfl rfl rfl rfl (fun w hw => gapTop_spec defaultC tComma (by decide) w (hs.cls hw)) ?_ | refine T_callC rfl rfl rfl rfl rfl rfl rfl (fun hg w hw => gapTop_spec defaultC tComma (by decide) w (hs.cls hw)) ?_ | refine T_val rfl (Val.eqS (r := true) rfl (fun w => eqCosts defaultC defaultC w) Tryd.eqGuardType23) rfl rfl rfl ?_ | refine T_valC rfl (Val.eqS (r := true) rfl (fun w => eqCosts defaultC defaultC w) Tryd.eqGuardType23) rfl rfl rfl rfl rfl ?_) | (show T _ (.run _ _ (_ :: _) _ _ :: _) _ _ _; first | refine rc rfl rfl rfl rfl rfl rfl rfl (fun w hw => defaultPrg_spec w) ?_ | refine rcG rfl rfl rfl rfl rfl rfl rfl rfl rfl (fun hg w hw => defaultPrg_spec w) ?_ | refine rc rfl rfl rfl rfl rfl rfl rfl (fun w hw => pairTop_spec defaultC tDeus tDeus2 (by decide) (by decide) w (hs.cls hw)) ?_ | refine rcG rfl rfl rfl rfl rfl rfl rfl rfl rfl (fun hg w hw => pairTop_spec defaultC tDeus tDeus2 (by decide) (by decide) w (hs.cls hw)) ?_ | refine rc rfl rfl rfl rfl rfl rfl rfl (fun w hw => pairTop_spec defaultC tDeus tDei (by decide) (by decide) w (hs.cls hw)) ?_ | refine rcG rfl rfl rfl rfl rfl rfl rfl rfl rfl (fun hg w hw => pairTop_spec defaultC tDeus tDei (by decide) (by decide) w (hs.cls hw)) ?_ | refine rc rfl rfl rfl rfl rfl rfl rfl (fun w hw => gapTop_spec defaultC tComma (by decide) w (hs.cls hw)) ?_ | refine rcG rfl rfl rfl rfl rfl rfl rfl rfl rfl (fun hg w hw => gapTop_spec defaultC tComma (by decide) w (hs.cls hw)) ?_ | refine rv rfl rfl rfl (Val.eqS (r := true) rfl (fun w => eqCosts defaultC defaultC w) Tryd.eqGuardType23) rfl rfl rfl ?_ | refine rg rfl rfl rfl (Val.eqS (r := true) rfl (fun w => eqCosts defaultC defaultC w) Tryd.eqGuardType23) rfl rfl rfl rfl rfl ?_) | (show ∀ _ : Nat, T _ _ _ _ _; intro _) | (show T _ (.code .ret :: _) _ _ _; refine T_retV [] rfl (Hle.none _) ⟨congrArg Value.bool ?_, rfl⟩))
  rw [ex1, ex2, ex3]; rfl
theorem longT_small {t : Tok} (h : longT t = false) : t.small ∧ t.text.size ≤ 12 ∧ t.norm.size ≤ 12 := by
  simp only [longT, Bool.or_eq_false_iff, decide_eq_false_iff_not] at h
  unfold Tok.small; omega
end Go.Proofs.YtiglobijdegjdaaDoor
