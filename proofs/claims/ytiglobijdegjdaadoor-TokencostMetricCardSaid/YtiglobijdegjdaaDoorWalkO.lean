/- Walks: slices that are copied. -/
import Derived.Test.YtiglobijdegjdaaDoorEngW
import Derived.Test.YtiglobijdegjdaaDoorSpecO
import Derived.Test.YtiglobijdegjdaaDoorWalkN
namespace Go.Proofs.YtiglobijdegjdaaDoor
open Go.RowKit Go.Shelf Go.Proofs
set_option maxRecDepth 100000
set_option maxHeartbeats 1000000

theorem isNone_true {A : Option Addr} (h : isNone' A = true) : A = none := by cases A <;> simp_all [isNone']
theorem src_none {w : World} {sz n : Nat} {xs : List Value} (h : Src w sz none n xs) : n = 0 ∧ xs = [] := by
  have : n = 0 := by
    rcases Nat.eq_zero_or_pos n with h1 | h1
    · exact h1
    · have := (h.2 h1).1; simp [isAt] at this
  subst this
  exact ⟨rfl, List.eq_nil_of_length_eq_zero (by simpa using h.1)⟩
theorem oneMap {α : Type} (f : α → Value) (hf : ∀ x, (f x).oneCell' = true) : ∀ l : List α, oneCells (l.map f) = true
  | [] => rfl
  | x :: l => by rw [List.map_cons]; simp only [oneCells, hf, Bool.true_and]; exact oneMap f hf l
theorem oneToks : ∀ l : List Tok, oneCells (l.flatMap Tok.cells) = true
  | [] => rfl
  | t :: l => by
    rw [List.flatMap_cons]
    simp only [Tok.cells, List.cons_append, List.nil_append, oneCells, Value.oneCell', Bool.true_and]
    exact oneToks l
theorem cloneT_spec (A : Option Addr) (n c : Nat) (l : List Tok) (w : World) (hs : Src w 6 A n (l.flatMap Tok.cells)) (hb : n ≤ 1000000) :
    Spec Tryd.prog 23 [.slice A n c] w (fun v R => ∃ x : Option Addr × Nat, True ∧ v = .slice x.1 n x.2 ∧ R = [row 27 6 x.1 x.2 n (l.flatMap Tok.cells)]) := by
  refine spec_of sg Tryd.func23 rfl rfl rfl ?_
  repeat' (first | refine d1 ?_ | refine dd ?_ | (show T _ (.ops _ (_ :: _) :: _) _ _ _; first | refine T_val rfl (Val.nilS rfl) rfl rfl rfl ?_ | refine T_valC rfl (Val.nilS rfl) rfl rfl rfl rfl rfl ?_) | (show T _ (.run _ _ (_ :: _) _ _ :: _) _ _ _; first | refine rv rfl rfl rfl (Val.nilS rfl) rfl rfl rfl ?_ | refine rg rfl rfl rfl (Val.nilS rfl) rfl rfl rfl rfl rfl ?_) | (show ∀ _ : Nat, T _ _ _ _ _; intro _))
  refine T_if rfl (fun h => ?_) (fun h => ?_)
  · obtain rfl := isNone_true h
    obtain ⟨rfl, e⟩ := src_none hs
    rw [e]
    repeat' (first | refine d1 ?_ | refine dd ?_ | (show ∀ _ : Nat, T _ _ _ _ _; intro _))
    refine T_nilrow 27 6 ?_
    repeat' (first | refine d1 ?_ | refine dd ?_ | (show ∀ _ : Nat, T _ _ _ _ _; intro _) | (show T _ (.code .ret :: _) _ _ _; refine T_retV _ rfl Hle.sub ⟨(none, 0), trivial, rfl, rfl⟩))
  · repeat' (first | refine d1 ?_ | (show ∀ _ : Nat, T _ _ _ _ _; intro _))
    refine T_blk_rowh 6 0 rfl (by omega) ?_
    refine T_op (OpT.append rfl rfl rfl rfl rfl rfl rfl rfl rfl rfl (rdSrc hs) (oneToks l) (by dsimp only; omega) (by omega) (fun A' cap' hA' => ?_))
    rw [show 0 + n = n by omega, show flatP [] ++ l.flatMap Tok.cells = l.flatMap Tok.cells from rfl]
    repeat' (first | refine d1 ?_ | refine dd ?_ | (show ∀ _ : Nat, T _ _ _ _ _; intro _) | (show T _ (.code .ret :: _) _ _ _; refine T_retV _ rfl (Hle.refl _) ⟨(A', cap'), trivial, rfl, rfl⟩))
theorem cloneB_spec (A : Option Addr) (n c : Nat) (l : List Bool) (w : World) (hs : Src w 1 A n (l.map Value.bool)) (hb : n ≤ 1000000) :
    Spec Tryd.prog 24 [.slice A n c] w (fun v R => ∃ x : Option Addr × Nat, True ∧ v = .slice x.1 n x.2 ∧ R = [row 4 1 x.1 x.2 n (l.map Value.bool)]) := by
  refine spec_of sg Tryd.func24 rfl rfl rfl ?_
  repeat' (first | refine d1 ?_ | refine dd ?_ | (show T _ (.ops _ (_ :: _) :: _) _ _ _; first | refine T_val rfl (Val.nilS rfl) rfl rfl rfl ?_ | refine T_valC rfl (Val.nilS rfl) rfl rfl rfl rfl rfl ?_) | (show T _ (.run _ _ (_ :: _) _ _ :: _) _ _ _; first | refine rv rfl rfl rfl (Val.nilS rfl) rfl rfl rfl ?_ | refine rg rfl rfl rfl (Val.nilS rfl) rfl rfl rfl rfl rfl ?_) | (show ∀ _ : Nat, T _ _ _ _ _; intro _))
  refine T_if rfl (fun h => ?_) (fun h => ?_)
  · obtain rfl := isNone_true h
    obtain ⟨rfl, e⟩ := src_none hs
    rw [e]
    repeat' (first | refine d1 ?_ | refine dd ?_ | (show ∀ _ : Nat, T _ _ _ _ _; intro _))
    refine T_nilrow 4 1 ?_
    repeat' (first | refine d1 ?_ | refine dd ?_ | (show ∀ _ : Nat, T _ _ _ _ _; intro _) | (show T _ (.code .ret :: _) _ _ _; refine T_retV _ rfl Hle.sub ⟨(none, 0), trivial, rfl, rfl⟩))
  · repeat' (first | refine d1 ?_ | (show ∀ _ : Nat, T _ _ _ _ _; intro _))
    refine T_blk_rowh 1 0 rfl (by omega) ?_
    refine T_op (OpT.append rfl rfl rfl rfl rfl rfl rfl rfl rfl rfl (rdSrc hs) (oneMap Value.bool (fun _ => rfl) l) (by dsimp only; omega) (by omega) (fun A' cap' hA' => ?_))
    rw [show 0 + n = n by omega, show flatP [] ++ l.map Value.bool = l.map Value.bool from rfl]
    repeat' (first | refine d1 ?_ | refine dd ?_ | (show ∀ _ : Nat, T _ _ _ _ _; intro _) | (show T _ (.code .ret :: _) _ _ _; refine T_retV _ rfl (Hle.refl _) ⟨(A', cap'), trivial, rfl, rfl⟩))
end Go.Proofs.YtiglobijdegjdaaDoor
