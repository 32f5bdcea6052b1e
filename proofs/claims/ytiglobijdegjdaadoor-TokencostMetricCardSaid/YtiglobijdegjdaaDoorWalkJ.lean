/- Walks: costs of pairs and gaps, as the two packages hand them out. -/
import Derived.Test.YtiglobijdegjdaaDoorWalkI
import Derived.Test.YtiglobijdegjdaaDoorSpecJ
import Derived.Tactics
import Derived.Laws.StructEq
namespace Go.Proofs.YtiglobijdegjdaaDoor
open Go.RowKit Go.Shelf Go.Proofs
set_option maxRecDepth 100000
set_option maxHeartbeats 1000000

theorem eqCosts (a b : Costs) (w : World) : (Op.equalIn 10000 23 (.agg a.cells.toArray) (.agg b.cells.toArray)).run Tryd.prog w = .ok (decide (a = b)) w := by
  have hS : Tryd.prog.underlying 23 = some (.struct (Tryd.prog.fieldsOf 23)) := by kernel_rfl
  have hp : Tryd.prog.stoodInHeld 23 = false := Tryd.stoodInHeld23
  have u3 := Tryd.underlying3
  have a3 := Tryd.isAgg3
  rw [show (10000 : Nat) = 9999 + 1 from rfl, run_equalIn_agg w 9999 23 _ _ hS hp]
  simp only [Program.fieldsOf, Tryd.underlying23]
  go_simp
  rw [show decide (a = b) = decide (a.gap = b.gap ∧ a.norm = b.norm ∧ a.letter = b.letter ∧ a.most = b.most) from decide_eq_decide.2 (Costs.eq_iff a b)]
  (repeat' split) <;> simp_all
theorem eqTok (a b : Tok) (w : World) : (Op.equalIn 10000 27 (.agg a.cells.toArray) (.agg b.cells.toArray)).run Tryd.prog w = .ok (decide (a = b)) w := by
  have hS : Tryd.prog.underlying 27 = some (.struct (Tryd.prog.fieldsOf 27)) := by kernel_rfl
  have hp : Tryd.prog.stoodInHeld 27 = false := Tryd.stoodInHeld27
  have hS2 : Tryd.prog.underlying 25 = some (.struct (Tryd.prog.fieldsOf 25)) := by kernel_rfl
  have hp2 : Tryd.prog.stoodInHeld 25 = false := Tryd.stoodInHeld25
  have u3 := Tryd.underlying3
  have a3 := Tryd.isAgg3
  have u9 := Tryd.underlying9
  have a9 := Tryd.isAgg9
  have a25 := Tryd.isAgg25
  have z25 := Tryd.sizeOf25
  have h2 : ∀ (p q : ByteArray) (m n : Int), (Op.equalIn 9999 25 (.agg #[.string p, .int .i64 m]) (.agg #[.string q, .int .i64 n])).run Tryd.prog w = .ok (decide (p = q) && decide (m = n)) w := by
    intro p q m n
    rw [show (9999 : Nat) = 9998 + 1 from rfl, run_equalIn_agg w 9998 25 _ _ hS2 hp2]
    simp only [Program.fieldsOf, Tryd.underlying25]
    go_simp
    simp only [toL_iff]
    (repeat' split) <;> simp_all
  rw [show (10000 : Nat) = 9999 + 1 from rfl, run_equalIn_agg w 9999 27 _ _ hS hp]
  simp only [Program.fieldsOf, Tryd.underlying27]
  clear hS2 hp2
  go_simp
  try simp only [h2]
  simp only [toL_iff]
  rw [show decide (a = b) = decide (a.text = b.text ∧ a.norm = b.norm ∧ a.page = b.page ∧ a.line = b.line ∧ a.flags = b.flags ∧ a.name = b.name) from decide_eq_decide.2 (Tok.eq_iff a b)]
  (repeat' split) <;> simp_all

theorem rules_spec (w : World) : Spec Tryd.prog 43 [] w (fun v A => ∃ g : Nat, True ∧ v = .slice (some ⟨g, 0, none⟩) 3 3 ∧ A = [blk g [.func (.func 60) #[] #[], .func (.func 61) #[] #[], .func (.func 62) #[] #[]] 70]) := by
  refine spec_of sg Tryd.func43 rfl rfl rfl ?_
  repeat' (first | refine d1 ?_ | refine dd ?_ | (show ∀ _ : Nat, T _ _ _ _ _; intro _))
  rename_i g
  refine T_retV _ rfl (Hle.refl _) ⟨g, trivial, rfl, rfl⟩
theorem pairPrg_spec (c : Costs) (a b : Tok) (hc : costE c = 0) (ha : 0 ≤ a.flags ∧ a.flags ≤ 31) (hb : 0 ≤ b.flags ∧ b.flags ≤ 31) (hsa : a.norm.size ≤ 128) (hsb : b.norm.size ≤ 128) (w : World) : Spec Tryd.prog 30 [c.val, a.val, b.val] w (fun v A => v = .int .i64 (pairC c a b) ∧ A = []) := by
  obtain ⟨ho1, ho2⟩ := or_law a.flags b.flags ha hb
  refine spec_of sg Tryd.func30 rfl rfl rfl ?_
  refine T_op (OpT.box (cs := c.cells) rfl rfl rfl rfl rfl rfl rfl (fun pc => ?_))
  refine T_op (OpT.box (cs := a.cells) rfl rfl rfl rfl rfl rfl rfl (fun pa => ?_))
  refine T_op (OpT.box (cs := b.cells) rfl rfl rfl rfl rfl rfl rfl (fun pb => ?_))
  repeat' (first | refine d1 ?_ | refine dd ?_ | (show T _ (.ops _ (_ :: _) :: _) _ _ _; refine T_callE rfl rfl rfl rfl rfl (fun w hw => rules_spec w) (fun g _ => ?_)) | (show ∀ _ : Nat, T _ _ _ _ _; intro _))
  refine T_loopX (fun k : Nat => [(13, .int .i64 k)]) (fun _ => [blk g _ _, blk pb b.cells 27, blk pa a.cells 27, blk pc c.cells 23]) (fun k => k ≤ 2 ∧ (1 ≤ k → a.text ≠ b.text) ∧ (2 ≤ k → ¬ (a.norm = b.norm ∨ hasN a.flags 2 = true ∨ hasN b.flags 2 = true))) (fun k => 3 - k) 0 ⟨by omega, by omega, by omega⟩ ?_
  rintro k ⟨hk, h1, h2⟩
  repeat' (first | refine d1 ?_ | refine dd ?_ | (show ∀ _ : Nat, T _ _ _ _ _; intro _))
  refine T_if rfl (fun h => ?_) (fun h => ?_)
  · have hk3 : k = 0 ∨ k = 1 ∨ k = 2 := by omega
    rcases hk3 with rfl | rfl | rfl
    · repeat' (first | refine d1 ?_ | refine dd ?_ | (show T _ (.ops _ (_ :: _) :: _) _ _ _; first | refine T_call rfl rfl rfl rfl rfl (fun w hw => rule1_spec c a b w) ?_ | refine T_callC rfl rfl rfl rfl rfl rfl rfl (fun hg w hw => rule1_spec c a b w) ?_) | (show T _ (.run _ _ (_ :: _) _ _ :: _) _ _ _; first | refine rc rfl rfl rfl rfl rfl rfl rfl (fun w hw => rule1_spec c a b w) ?_ | refine rcG rfl rfl rfl rfl rfl rfl rfl rfl rfl (fun hg w hw => rule1_spec c a b w) ?_) | (show ∀ _ : Nat, T _ _ _ _ _; intro _))
      refine T_if rfl (fun h3 => ?_) (fun h3 => ?_)
      · repeat' (first | refine d1 ?_ | refine dd ?_ | (show ∀ _ : Nat, T _ _ _ _ _; intro _) | (show T _ (.code .ret :: _) _ _ _; refine T_retV [] rfl (Hle.none _) ⟨congrArg (Value.int .i64) ?_, rfl⟩))
        simp only [decide_eq_true_eq] at h3
        unfold pairC; rw [if_pos h3]
      · simp only [decide_eq_false_iff_not] at h3
        repeat' (first | refine d1 ?_ | refine dd ?_ | (show ∀ _ : Nat, T _ _ _ _ _; intro _))
        exact T_backX 1 ⟨by omega, fun _ => h3, by omega⟩ (by omega)
    · have h1 := h1 (by omega)
      repeat' (first | refine d1 ?_ | refine dd ?_ | (show T _ (.ops _ (_ :: _) :: _) _ _ _; first | refine T_call rfl rfl rfl rfl rfl (fun w hw => rule2_spec c a b ha hb ho1 w) ?_ | refine T_callC rfl rfl rfl rfl rfl rfl rfl (fun hg w hw => rule2_spec c a b ha hb ho1 w) ?_) | (show T _ (.run _ _ (_ :: _) _ _ :: _) _ _ _; first | refine rc rfl rfl rfl rfl rfl rfl rfl (fun w hw => rule2_spec c a b ha hb ho1 w) ?_ | refine rcG rfl rfl rfl rfl rfl rfl rfl rfl rfl (fun hg w hw => rule2_spec c a b ha hb ho1 w) ?_) | (show ∀ _ : Nat, T _ _ _ _ _; intro _))
      rw [ho2]
      refine T_if rfl (fun h3 => ?_) (fun h3 => ?_)
      · repeat' (first | refine d1 ?_ | refine dd ?_ | (show ∀ _ : Nat, T _ _ _ _ _; intro _) | (show T _ (.code .ret :: _) _ _ _; refine T_retV [] rfl (Hle.none _) ⟨congrArg (Value.int .i64) ?_, rfl⟩))
        simp only [Bool.or_eq_true, decide_eq_true_eq] at h3
        unfold pairC; rw [if_neg h1, if_pos h3]
      · simp only [Bool.or_eq_false_iff, decide_eq_false_iff_not] at h3
        repeat' (first | refine d1 ?_ | refine dd ?_ | (show ∀ _ : Nat, T _ _ _ _ _; intro _))
        refine T_backX 2 ⟨by omega, fun _ => h1, fun _ hh => ?_⟩ (by omega)
        rw [h3.2.1, h3.2.2] at hh
        simp [h3.1] at hh
    · have h1 := h1 (by omega)
      have h2 := h2 (by omega)
      repeat' (first | refine d1 ?_ | refine dd ?_ | (show T _ (.ops _ (_ :: _) :: _) _ _ _; first | refine T_call rfl rfl rfl rfl rfl (fun w hw => rule3_spec c a b hc hsa hsb w) ?_ | refine T_callC rfl rfl rfl rfl rfl rfl rfl (fun hg w hw => rule3_spec c a b hc hsa hsb w) ?_) | (show T _ (.run _ _ (_ :: _) _ _ :: _) _ _ _; first | refine rc rfl rfl rfl rfl rfl rfl rfl (fun w hw => rule3_spec c a b hc hsa hsb w) ?_ | refine rcG rfl rfl rfl rfl rfl rfl rfl rfl rfl (fun hg w hw => rule3_spec c a b hc hsa hsb w) ?_) | (show ∀ _ : Nat, T _ _ _ _ _; intro _))
      refine T_if rfl (fun h3 => ?_) (fun h3 => by cases h3)
      repeat' (first | refine d1 ?_ | refine dd ?_ | (show ∀ _ : Nat, T _ _ _ _ _; intro _) | (show T _ (.code .ret :: _) _ _ _; refine T_retV [] rfl (Hle.none _) ⟨congrArg (Value.int .i64) ?_, rfl⟩))
      unfold pairC; rw [if_neg h1, if_neg h2]
  · simp only [decide_eq_false_iff_not] at h
    omega
end Go.Proofs.YtiglobijdegjdaaDoor
