/- Walks: searches in slices. -/
import Derived.Test.YtiglobijdegjdaaDoorWalkC
import Derived.Test.YtiglobijdegjdaaDoorSpecE
namespace Go.Proofs.YtiglobijdegjdaaDoor
open Go.RowKit Go.Shelf Go.Proofs
set_option maxRecDepth 100000
set_option maxHeartbeats 1000000

theorem indexFuncB_spec (A : Option Addr) (n c : Nat) (l : List UInt8) (f : FuncId) (fs cs : List Value) (p : UInt8 → Bool) (w : World) (hs : Src w 1 A n (l.map fun c => Value.int .u8 (c.toNat : Nat))) (hn : l.length = n) (hb : n ≤ 9223372036854775807)
    (hf : ∀ x ∈ l, ∀ w', Below w.heap.size w w' → Spec Tryd.prog f (fs ++ (.int .u8 ((x.toNat : Nat) : Int) :: cs)) w' (fun v A => v = .bool (p x) ∧ A = [])) :
    Spec Tryd.prog 84 [.slice A n c, .func (.func f) fs.toArray cs.toArray] w (fun v A => v = .int .i64 (findI p l) ∧ A = []) := by
  refine spec_of sg Tryd.func84 rfl rfl rfl ?_
  repeat' (first | refine d1 ?_ | refine dd ?_ | (show ∀ _ : Nat, T _ _ _ _ _; intro _))
  refine T_loop (fun k : Nat => [(0, .slice A n c), (1, .func (.func f) fs.toArray cs.toArray), (7, .int .i64 n), (8, .int .i64 k)]) (fun _ => []) (fun k => k ≤ n ∧ ∀ i x, i < k → l[i]? = some x → p x = false) (fun k => n - k) 0 ⟨Nat.zero_le _, fun i x h => by omega⟩ ⟨rfl, rfl, rfl, rfl, trivial⟩ (Hle.refl _) ?_
  rintro k ⟨hk, hok⟩
  repeat' (first | refine d1 ?_ | refine dd ?_ | (show ∀ _ : Nat, T _ _ _ _ _; intro _))
  refine T_if rfl (fun h => ?_) (fun h => ?_)
  · simp only [decide_eq_true_eq] at h
    have hkn : k < n := by omega
    obtain ⟨b, o, rfl⟩ := hs.base (by omega)
    obtain ⟨x, hx⟩ : ∃ x, l[k]? = some x := ⟨_, List.getElem?_eq_getElem (by omega)⟩
    repeat' (first | refine d1 ?_ | refine dd ?_ | (show ∀ _ : Nat, T _ _ _ _ _; intro _))
    refine T_load (v := .int .u8 ((x.toNat : Nat) : Int)) rfl rfl rfl rfl rfl (rdOld ?_) ?_
    · exact (hs.get1 hkn (by rw [List.getElem?_map, hx]; rfl)).2
    repeat' (first | refine d1 ?_ | refine dd ?_ | (show T _ (.ops _ (_ :: _) :: _) _ _ _; first | refine T_call rfl rfl rfl rfl rfl (fun w hw => hf x (List.mem_of_getElem? hx) w hw.below) ?_ | refine T_callC rfl rfl rfl rfl rfl rfl rfl (fun hg w hw => hf x (List.mem_of_getElem? hx) w hw.below) ?_) | (show T _ (.run _ _ (_ :: _) _ _ :: _) _ _ _; first | refine rc rfl rfl rfl rfl rfl rfl rfl (fun w hw => hf x (List.mem_of_getElem? hx) w hw.below) ?_ | refine rcG rfl rfl rfl rfl rfl rfl rfl rfl rfl (fun hg w hw => hf x (List.mem_of_getElem? hx) w hw.below) ?_) | (show ∀ _ : Nat, T _ _ _ _ _; intro _))
    refine T_if rfl (fun h1 => ?_) (fun h1 => ?_)
    · repeat' (first | refine d1 ?_ | refine dd ?_ | (show ∀ _ : Nat, T _ _ _ _ _; intro _) | (show T _ (.code .ret :: _) _ _ _; refine T_retV [] rfl (Hle.refl _) ⟨congrArg (Value.int .i64) ?_, rfl⟩))
      exact (findI_some hx h1 hok).symm
    · repeat' (first | refine d1 ?_ | refine dd ?_ | (show ∀ _ : Nat, T _ _ _ _ _; intro _))
      refine T_back (k + 1) ⟨by omega, fun i y hi hy => ?_⟩ (by omega) ⟨rfl, rfl, rfl, rfl, trivial⟩ (Hle.refl _)
      rcases Nat.lt_or_ge i k with h2 | h2
      · exact hok i y h2 hy
      · rw [show i = k by omega, hx] at hy
        cases hy
        exact h1
  · simp only [decide_eq_false_iff_not] at h
    repeat' (first | refine d1 ?_ | refine dd ?_ | (show ∀ _ : Nat, T _ _ _ _ _; intro _) | (show T _ (.code .ret :: _) _ _ _; refine T_retV [] rfl (Hle.refl _) ⟨congrArg (Value.int .i64) ?_, rfl⟩))
    exact (findI_none (fun i x hi => hok i x (by have := (List.getElem?_eq_some_iff.1 hi).1; omega) hi)).symm
theorem containsFuncB_spec (A : Option Addr) (n c : Nat) (l : List UInt8) (f : FuncId) (fs cs : List Value) (p : UInt8 → Bool) (w : World) (hs : Src w 1 A n (l.map fun c => Value.int .u8 (c.toNat : Nat))) (hn : l.length = n) (hb : n ≤ 9223372036854775807)
    (hf : ∀ x ∈ l, ∀ w', Below w.heap.size w w' → Spec Tryd.prog f (fs ++ (.int .u8 ((x.toNat : Nat) : Int) :: cs)) w' (fun v A => v = .bool (p x) ∧ A = [])) :
    Spec Tryd.prog 71 [.slice A n c, .func (.func f) fs.toArray cs.toArray] w (fun v A => v = .bool (l.any p) ∧ A = []) := by
  refine spec_of sg Tryd.func71 rfl rfl rfl ?_
  repeat' (first | refine d1 ?_ | refine dd ?_ | (show T _ (.ops _ (_ :: _) :: _) _ _ _; first | refine T_call rfl rfl rfl rfl rfl (fun w hw => indexFuncB_spec A n c l f fs cs p w (rdSrc hs w hw) hn hb (fun x hx w' hb' => hf x hx w' (hw.below.trans (hb'.mono hw.below.size)))) ?_ | refine T_callC rfl rfl rfl rfl rfl rfl rfl (fun hg w hw => indexFuncB_spec A n c l f fs cs p w (rdSrc hs w hw) hn hb (fun x hx w' hb' => hf x hx w' (hw.below.trans (hb'.mono hw.below.size)))) ?_) | (show T _ (.run _ _ (_ :: _) _ _ :: _) _ _ _; first | refine rc rfl rfl rfl rfl rfl rfl rfl (fun w hw => indexFuncB_spec A n c l f fs cs p w (rdSrc hs w hw) hn hb (fun x hx w' hb' => hf x hx w' (hw.below.trans (hb'.mono hw.below.size)))) ?_ | refine rcG rfl rfl rfl rfl rfl rfl rfl rfl rfl (fun hg w hw => indexFuncB_spec A n c l f fs cs p w (rdSrc hs w hw) hn hb (fun x hx w' hb' => hf x hx w' (hw.below.trans (hb'.mono hw.below.size)))) ?_) | (show ∀ _ : Nat, T _ _ _ _ _; intro _) | (show T _ (.code .ret :: _) _ _ _; refine T_retV [] rfl (Hle.refl _) ⟨congrArg Value.bool ?_, rfl⟩))
  exact findI_any p l

theorem indexFuncI_spec (A : Option Addr) (n c : Nat) (l : List Int) (f : FuncId) (fs cs : List Value) (p : Int → Bool) (w : World) (hs : Src w 1 A n (l.map fun n => Value.int .i64 n)) (hn : l.length = n) (hb : n ≤ 9223372036854775807)
    (hf : ∀ x ∈ l, ∀ w', Below w.heap.size w w' → Spec Tryd.prog f (fs ++ (.int .i64 x :: cs)) w' (fun v A => v = .bool (p x) ∧ A = [])) :
    Spec Tryd.prog 52 [.slice A n c, .func (.func f) fs.toArray cs.toArray] w (fun v A => v = .int .i64 (findI p l) ∧ A = []) := by
  refine spec_of sg Tryd.func52 rfl rfl rfl ?_
  repeat' (first | refine d1 ?_ | refine dd ?_ | (show ∀ _ : Nat, T _ _ _ _ _; intro _))
  refine T_loop (fun k : Nat => [(0, .slice A n c), (1, .func (.func f) fs.toArray cs.toArray), (7, .int .i64 n), (8, .int .i64 k)]) (fun _ => []) (fun k => k ≤ n ∧ ∀ i x, i < k → l[i]? = some x → p x = false) (fun k => n - k) 0 ⟨Nat.zero_le _, fun i x h => by omega⟩ ⟨rfl, rfl, rfl, rfl, trivial⟩ (Hle.refl _) ?_
  rintro k ⟨hk, hok⟩
  repeat' (first | refine d1 ?_ | refine dd ?_ | (show ∀ _ : Nat, T _ _ _ _ _; intro _))
  refine T_if rfl (fun h => ?_) (fun h => ?_)
  · simp only [decide_eq_true_eq] at h
    have hkn : k < n := by omega
    obtain ⟨b, o, rfl⟩ := hs.base (by omega)
    obtain ⟨x, hx⟩ : ∃ x, l[k]? = some x := ⟨_, List.getElem?_eq_getElem (by omega)⟩
    repeat' (first | refine d1 ?_ | refine dd ?_ | (show ∀ _ : Nat, T _ _ _ _ _; intro _))
    refine T_load (v := .int .i64 x) rfl rfl rfl rfl rfl (rdOld ?_) ?_
    · exact (hs.get1 hkn (by rw [List.getElem?_map, hx]; rfl)).2
    repeat' (first | refine d1 ?_ | refine dd ?_ | (show T _ (.ops _ (_ :: _) :: _) _ _ _; first | refine T_call rfl rfl rfl rfl rfl (fun w hw => hf x (List.mem_of_getElem? hx) w hw.below) ?_ | refine T_callC rfl rfl rfl rfl rfl rfl rfl (fun hg w hw => hf x (List.mem_of_getElem? hx) w hw.below) ?_) | (show T _ (.run _ _ (_ :: _) _ _ :: _) _ _ _; first | refine rc rfl rfl rfl rfl rfl rfl rfl (fun w hw => hf x (List.mem_of_getElem? hx) w hw.below) ?_ | refine rcG rfl rfl rfl rfl rfl rfl rfl rfl rfl (fun hg w hw => hf x (List.mem_of_getElem? hx) w hw.below) ?_) | (show ∀ _ : Nat, T _ _ _ _ _; intro _))
    refine T_if rfl (fun h1 => ?_) (fun h1 => ?_)
    · repeat' (first | refine d1 ?_ | refine dd ?_ | (show ∀ _ : Nat, T _ _ _ _ _; intro _) | (show T _ (.code .ret :: _) _ _ _; refine T_retV [] rfl (Hle.refl _) ⟨congrArg (Value.int .i64) ?_, rfl⟩))
      exact (findI_some hx h1 hok).symm
    · repeat' (first | refine d1 ?_ | refine dd ?_ | (show ∀ _ : Nat, T _ _ _ _ _; intro _))
      refine T_back (k + 1) ⟨by omega, fun i y hi hy => ?_⟩ (by omega) ⟨rfl, rfl, rfl, rfl, trivial⟩ (Hle.refl _)
      rcases Nat.lt_or_ge i k with h2 | h2
      · exact hok i y h2 hy
      · rw [show i = k by omega, hx] at hy
        cases hy
        exact h1
  · simp only [decide_eq_false_iff_not] at h
    repeat' (first | refine d1 ?_ | refine dd ?_ | (show ∀ _ : Nat, T _ _ _ _ _; intro _) | (show T _ (.code .ret :: _) _ _ _; refine T_retV [] rfl (Hle.refl _) ⟨congrArg (Value.int .i64) ?_, rfl⟩))
    exact (findI_none (fun i x hi => hok i x (by have := (List.getElem?_eq_some_iff.1 hi).1; omega) hi)).symm
theorem containsFuncI_spec (A : Option Addr) (n c : Nat) (l : List Int) (f : FuncId) (fs cs : List Value) (p : Int → Bool) (w : World) (hs : Src w 1 A n (l.map fun n => Value.int .i64 n)) (hn : l.length = n) (hb : n ≤ 9223372036854775807)
    (hf : ∀ x ∈ l, ∀ w', Below w.heap.size w w' → Spec Tryd.prog f (fs ++ (.int .i64 x :: cs)) w' (fun v A => v = .bool (p x) ∧ A = [])) :
    Spec Tryd.prog 35 [.slice A n c, .func (.func f) fs.toArray cs.toArray] w (fun v A => v = .bool (l.any p) ∧ A = []) := by
  refine spec_of sg Tryd.func35 rfl rfl rfl ?_
  repeat' (first | refine d1 ?_ | refine dd ?_ | (show T _ (.ops _ (_ :: _) :: _) _ _ _; first | refine T_call rfl rfl rfl rfl rfl (fun w hw => indexFuncI_spec A n c l f fs cs p w (rdSrc hs w hw) hn hb (fun x hx w' hb' => hf x hx w' (hw.below.trans (hb'.mono hw.below.size)))) ?_ | refine T_callC rfl rfl rfl rfl rfl rfl rfl (fun hg w hw => indexFuncI_spec A n c l f fs cs p w (rdSrc hs w hw) hn hb (fun x hx w' hb' => hf x hx w' (hw.below.trans (hb'.mono hw.below.size)))) ?_) | (show T _ (.run _ _ (_ :: _) _ _ :: _) _ _ _; first | refine rc rfl rfl rfl rfl rfl rfl rfl (fun w hw => indexFuncI_spec A n c l f fs cs p w (rdSrc hs w hw) hn hb (fun x hx w' hb' => hf x hx w' (hw.below.trans (hb'.mono hw.below.size)))) ?_ | refine rcG rfl rfl rfl rfl rfl rfl rfl rfl rfl (fun hg w hw => indexFuncI_spec A n c l f fs cs p w (rdSrc hs w hw) hn hb (fun x hx w' hb' => hf x hx w' (hw.below.trans (hb'.mono hw.below.size)))) ?_) | (show ∀ _ : Nat, T _ _ _ _ _; intro _) | (show T _ (.code .ret :: _) _ _ _; refine T_retV [] rfl (Hle.refl _) ⟨congrArg Value.bool ?_, rfl⟩))
  exact findI_any p l

theorem indexFuncT_spec (A : Option Addr) (n c : Nat) (l : List Tok) (f : FuncId) (fs cs : List Value) (p : Tok → Bool) (w : World) (hs : Src w 6 A n (l.flatMap Tok.cells)) (hn : l.length = n) (hb : n ≤ 9223372036854775807)
    (hf : ∀ x ∈ l, ∀ w', Below w.heap.size w w' → Spec Tryd.prog f (fs ++ (x.val :: cs)) w' (fun v A => v = .bool (p x) ∧ A = [])) :
    Spec Tryd.prog 41 [.slice A n c, .func (.func f) fs.toArray cs.toArray] w (fun v A => v = .int .i64 (findI p l) ∧ A = []) := by
  refine spec_of sg Tryd.func41 rfl rfl rfl ?_
  repeat' (first | refine d1 ?_ | refine dd ?_ | (show ∀ _ : Nat, T _ _ _ _ _; intro _))
  refine T_loop (fun k : Nat => [(0, .slice A n c), (1, .func (.func f) fs.toArray cs.toArray), (7, .int .i64 n), (8, .int .i64 k)]) (fun _ => []) (fun k => k ≤ n ∧ ∀ i x, i < k → l[i]? = some x → p x = false) (fun k => n - k) 0 ⟨Nat.zero_le _, fun i x h => by omega⟩ ⟨rfl, rfl, rfl, rfl, trivial⟩ (Hle.refl _) ?_
  rintro k ⟨hk, hok⟩
  repeat' (first | refine d1 ?_ | refine dd ?_ | (show ∀ _ : Nat, T _ _ _ _ _; intro _))
  refine T_if rfl (fun h => ?_) (fun h => ?_)
  · simp only [decide_eq_true_eq] at h
    have hkn : k < n := by omega
    obtain ⟨b, o, rfl⟩ := hs.base (by omega)
    obtain ⟨x, hx⟩ : ∃ x, l[k]? = some x := ⟨_, List.getElem?_eq_getElem (by omega)⟩
    repeat' (first | refine d1 ?_ | refine dd ?_ | (show ∀ _ : Nat, T _ _ _ _ _; intro _))
    refine T_loadA (vs := x.cells) rfl rfl rfl rfl rfl (rdOld ?_) rfl ?_
    · exact hs.getT hkn hx
    repeat' (first | refine d1 ?_ | refine dd ?_ | (show T _ (.ops _ (_ :: _) :: _) _ _ _; first | refine T_call rfl rfl rfl rfl rfl (fun w hw => hf x (List.mem_of_getElem? hx) w hw.below) ?_ | refine T_callC rfl rfl rfl rfl rfl rfl rfl (fun hg w hw => hf x (List.mem_of_getElem? hx) w hw.below) ?_) | (show T _ (.run _ _ (_ :: _) _ _ :: _) _ _ _; first | refine rc rfl rfl rfl rfl rfl rfl rfl (fun w hw => hf x (List.mem_of_getElem? hx) w hw.below) ?_ | refine rcG rfl rfl rfl rfl rfl rfl rfl rfl rfl (fun hg w hw => hf x (List.mem_of_getElem? hx) w hw.below) ?_) | (show ∀ _ : Nat, T _ _ _ _ _; intro _))
    refine T_if rfl (fun h1 => ?_) (fun h1 => ?_)
    · repeat' (first | refine d1 ?_ | refine dd ?_ | (show ∀ _ : Nat, T _ _ _ _ _; intro _) | (show T _ (.code .ret :: _) _ _ _; refine T_retV [] rfl (Hle.refl _) ⟨congrArg (Value.int .i64) ?_, rfl⟩))
      exact (findI_some hx h1 hok).symm
    · repeat' (first | refine d1 ?_ | refine dd ?_ | (show ∀ _ : Nat, T _ _ _ _ _; intro _))
      refine T_back (k + 1) ⟨by omega, fun i y hi hy => ?_⟩ (by omega) ⟨rfl, rfl, rfl, rfl, trivial⟩ (Hle.refl _)
      rcases Nat.lt_or_ge i k with h2 | h2
      · exact hok i y h2 hy
      · rw [show i = k by omega, hx] at hy
        cases hy
        exact h1
  · simp only [decide_eq_false_iff_not] at h
    repeat' (first | refine d1 ?_ | refine dd ?_ | (show ∀ _ : Nat, T _ _ _ _ _; intro _) | (show T _ (.code .ret :: _) _ _ _; refine T_retV [] rfl (Hle.refl _) ⟨congrArg (Value.int .i64) ?_, rfl⟩))
    exact (findI_none (fun i x hi => hok i x (by have := (List.getElem?_eq_some_iff.1 hi).1; omega) hi)).symm
theorem containsFuncT_spec (A : Option Addr) (n c : Nat) (l : List Tok) (f : FuncId) (fs cs : List Value) (p : Tok → Bool) (w : World) (hs : Src w 6 A n (l.flatMap Tok.cells)) (hn : l.length = n) (hb : n ≤ 9223372036854775807)
    (hf : ∀ x ∈ l, ∀ w', Below w.heap.size w w' → Spec Tryd.prog f (fs ++ (x.val :: cs)) w' (fun v A => v = .bool (p x) ∧ A = [])) :
    Spec Tryd.prog 27 [.slice A n c, .func (.func f) fs.toArray cs.toArray] w (fun v A => v = .bool (l.any p) ∧ A = []) := by
  refine spec_of sg Tryd.func27 rfl rfl rfl ?_
  repeat' (first | refine d1 ?_ | refine dd ?_ | (show T _ (.ops _ (_ :: _) :: _) _ _ _; first | refine T_call rfl rfl rfl rfl rfl (fun w hw => indexFuncT_spec A n c l f fs cs p w (rdSrc hs w hw) hn hb (fun x hx w' hb' => hf x hx w' (hw.below.trans (hb'.mono hw.below.size)))) ?_ | refine T_callC rfl rfl rfl rfl rfl rfl rfl (fun hg w hw => indexFuncT_spec A n c l f fs cs p w (rdSrc hs w hw) hn hb (fun x hx w' hb' => hf x hx w' (hw.below.trans (hb'.mono hw.below.size)))) ?_) | (show T _ (.run _ _ (_ :: _) _ _ :: _) _ _ _; first | refine rc rfl rfl rfl rfl rfl rfl rfl (fun w hw => indexFuncT_spec A n c l f fs cs p w (rdSrc hs w hw) hn hb (fun x hx w' hb' => hf x hx w' (hw.below.trans (hb'.mono hw.below.size)))) ?_ | refine rcG rfl rfl rfl rfl rfl rfl rfl rfl rfl (fun hg w hw => indexFuncT_spec A n c l f fs cs p w (rdSrc hs w hw) hn hb (fun x hx w' hb' => hf x hx w' (hw.below.trans (hb'.mono hw.below.size)))) ?_) | (show ∀ _ : Nat, T _ _ _ _ _; intro _) | (show T _ (.code .ret :: _) _ _ _; refine T_retV [] rfl (Hle.refl _) ⟨congrArg Value.bool ?_, rfl⟩))
  exact findI_any p l
end Go.Proofs.YtiglobijdegjdaaDoor
